/- NetActs. -/
import Derived.Test.YtjibmbejfpdifaaNetRef4
import Derived.Test.YtjibmbejfpdifaaNetActs
namespace Go.Proofs.Ytjibmbejfpdifaa
set_option linter.unusedVariables false
set_option linter.unusedSimpArgs false
open Go.RowKit
set_option maxRecDepth 10000 in
theorem nilHas (i : Int) (w : World) : Calls Try.prog 67 #[.pointer none, .int .i64 i] w fun e w' => e = .returned (.bool false) ∧ w = w' := by
  go_enter Try.func67, Try.ntmps67
  go_wp2
  go_ret
  exact ⟨rfl, rfl⟩
set_option maxRecDepth 10000 in
theorem nilSend (m : Msg) (w : World) : Calls Try.prog 22 #[.pointer none, .agg #[.int .i64 m.node, .int .i64 m.kind, .int .i64 m.term, .int .i64 m.gen, .int .i64 m.job, .int .i64 m.inc, .int .i64 m.version, .int .i64 m.epoch, .int .i64 m.until_, .int .i64 m.mode, .int .i64 m.work]] w fun e w' => e = .returned (.bool false) ∧ Below w.heap.size w w' := by
  go_enter Try.func22, Try.ntmps22
  go_wp2
  go_ret
  exact ⟨rfl, ((St.start w).alloc _).fin⟩
set_option maxRecDepth 10000 in
theorem nilDrop (i : Int) (w : World) : Calls Try.prog 23 #[.pointer none, .int .i64 i] w fun e w' => e = .returned (.bool false) ∧ w = w' := by
  go_enter Try.func23, Try.ntmps23
  go_wp2_with fail
  refine (nilHas i _).mono ?_
  rintro e w1 ⟨rfl, rfl⟩
  go_wp2
  go_ret
  exact ⟨rfl, rfl⟩
set_option maxRecDepth 10000 in
theorem nilTwice (i : Int) (w : World) : Calls Try.prog 24 #[.pointer none, .int .i64 i] w fun e w' => e = .returned (.bool false) ∧ w = w' := by
  go_enter Try.func24, Try.ntmps24
  go_wp2_with fail
  refine (nilHas i _).mono ?_
  rintro e w1 ⟨rfl, rfl⟩
  go_wp2
  go_ret
  exact ⟨rfl, rfl⟩
set_option maxRecDepth 10000 in
theorem nilFlip (i b : Int) (w : World) : Calls Try.prog 25 #[.pointer none, .int .i64 i, .int .i64 b] w fun e w' => e = .returned (.bool false) ∧ w = w' := by
  go_enter Try.func25, Try.ntmps25
  go_wp2_with fail
  refine (nilHas i _).mono ?_
  rintro e w1 ⟨rfl, rfl⟩
  go_wp2
  go_ret
  exact ⟨rfl, rfl⟩
set_option maxRecDepth 10000 in
theorem nilLen (w : World) : Calls Try.prog 26 #[.pointer none] w fun e w' => e = .returned (.int .i64 0) ∧ w = w' := by
  go_enter Try.func26, Try.ntmps26
  go_wp2
  go_ret
  exact ⟨rfl, rfl⟩
set_option maxRecDepth 10000 in
theorem nilSent (w : World) : Calls Try.prog 27 #[.pointer none] w fun e w' => e = .returned (.int .i64 0) ∧ w = w' := by
  go_enter Try.func27, Try.ntmps27
  go_wp2
  go_ret
  exact ⟨rfl, rfl⟩
set_option maxRecDepth 10000 in
theorem nilList (w : World) : Calls Try.prog 28 #[.pointer none] w fun e w' => e = .returned (.slice none 0 0) ∧ w = w' := by
  go_enter Try.func28, Try.ntmps28
  go_wp2
  go_ret
  exact ⟨rfl, rfl⟩
set_option maxRecDepth 10000 in
set_option maxHeartbeats 1600000 in
theorem nilDeliver (i : Int) (w : World) : Calls Try.prog 21 #[.pointer none, .int .i64 i] w fun e w' => e = .returned (.tuple #[.agg #[.int .i64 0, .int .i64 0, .int .i64 0, .int .i64 0, .int .i64 0, .int .i64 0, .int .i64 0, .int .i64 0, .int .i64 0, .int .i64 0, .int .i64 0], .bool false]) ∧ Below w.heap.size w w' := by
  have SZ : St w (w.alloc (.cells #[.int .i64 0, .int .i64 0, .int .i64 0, .int .i64 0, .int .i64 0, .int .i64 0, .int .i64 0, .int .i64 0, .int .i64 0, .int .i64 0, .int .i64 0] 23)) [cellsT w.heap.size 23 Msg.zero.cs] := (St.start w).newCells 23 #[.int .i64 0, .int .i64 0, .int .i64 0, .int .i64 0, .int .i64 0, .int .i64 0, .int .i64 0, .int .i64 0, .int .i64 0, .int .i64 0, .int .i64 0]
  go_enter Try.func21, Try.ntmps21
  go_wp2_with fail
  refine (nilHas i _).mono ?_
  rintro e w1 ⟨rfl, rfl⟩
  obtain ⟨f0, f1, f2, f3, f4, f5, f6, f7, f8, f9, f10⟩ := SZ.msgFrozen 0 rfl
  obtain ⟨z0, z1, z2, z3, z4, z5, z6, z7, z8, z9, z10⟩ := SZ.msg 0 rfl
  go_wp2
  refine bodyPost_ret (res_msg rfl _ _ w.heap.size #[.int .i64 0, .int .i64 0, .int .i64 0, .int .i64 0, .int .i64 0, .int .i64 0, .int .i64 0, .int .i64 0, .int .i64 0, .int .i64 0, .int .i64 0] rfl (by exact SZ.heap 0 rfl) rfl) rfl ?_
  exact ⟨rfl, SZ.fin⟩

set_option maxRecDepth 10000 in
set_option maxHeartbeats 6400000 in
theorem netActs_law (a : Option Addr) (L : List NAct) (n cap : Nat) (w : World) (hn : L.length = n) (hm : n ≤ maxLen) (hA : AtG eNA w a L) (hok : ∀ x ∈ L, x.Ok) :
    Calls Try.prog 4 #[.slice a n cap] w fun e w' => e = .returned (.bool true) ∧ Below w.heap.size w w' := by
  unfold maxLen at hm
  have HN := hid hn
  have HA := hid hA
  have HOk := hid hok
  have S0 := St.start w
  clear hn hA hok
  go_enter Try.func4, Try.ntmps4
  go_wp2_with fail
  refine (alive12_any _).mono ?_
  rintro e w1 ⟨rfl, hb1⟩
  have S1 := S0.grow hb1
  clear hb1 S0
  go_wp2_with fail
  all_goals (try (go_ret; exact ⟨rfl, S1.fin⟩))
  refine (nilDeliver 0 _).mono ?_
  rintro e w2 ⟨rfl, hb2⟩
  have S2 := (S1.grow hb2).alloc (.cells #[.int .i64 0, .int .i64 0, .int .i64 0, .int .i64 0, .int .i64 0, .int .i64 0, .int .i64 0, .int .i64 0, .int .i64 0, .int .i64 0, .int .i64 0] 23)
  clear hb2 S1
  go_wp2_with fail
  refine (nilSend ⟨0, 1, 0, 0, 0, 0, 0, 0, 0, 0, 0⟩ _).mono ?_
  rintro e w3 ⟨rfl, hb3⟩
  have S3 := S2.grow hb3
  clear hb3 S2
  go_wp2_with fail
  refine (nilDrop 0 _).mono ?_
  rintro e w4 ⟨rfl, rfl⟩
  go_wp2_with fail
  refine (nilTwice 0 _).mono ?_
  rintro e w4 ⟨rfl, rfl⟩
  go_wp2_with fail
  refine (nilFlip 0 0 _).mono ?_
  rintro e w4 ⟨rfl, rfl⟩
  go_wp2_with fail
  refine (nilLen _).mono ?_
  rintro e w4 ⟨rfl, rfl⟩
  go_wp2_with fail
  refine (nilSent _).mono ?_
  rintro e w4 ⟨rfl, rfl⟩
  go_wp2_with fail
  refine (nilList _).mono ?_
  rintro e w4 ⟨rfl, rfl⟩
  have S4 : St w (w3.alloc (.cells #[.slice none 0 0, .int .i64 0] 47)) [netT w3.heap.size ⟨[], 0⟩] := S3.netNew
  have S5 : St w ((w3.alloc (.cells #[.slice none 0 0, .int .i64 0] 47)).alloc (.cells #[.slice none 0 0, .slice none 0 0, .int .i64 0] 50)) (rnL (w3.heap.size + 1) none 0 none 0 ⟨[], 0⟩ [netT w3.heap.size ⟨[], 0⟩]) := by
    have h1 := S4.newAt 50 #[.slice none 0 0, .slice none 0 0, .int .i64 0] (w3.heap.size + 1) (alloc_size _ _)
    have h2 := ((h1.nilG eM).nilC eT).front 1 rfl
    have h3 := ((h2.front 2 rfl).front 1 rfl)
    exact ((h2.front 3 rfl).front 3 rfl).front 2 rfl
  clear S4 S3
  go_wp2_with fail
  go_loopw [8] (fun i wr => ∃ (k : Nat) (s : NS) (aL : Option Addr) (cL : Nat) (aB : Option Addr) (cB : Nat), k ≤ n ∧ i = .int .i64 k ∧ s.sent ≤ k ∧ St w wr (rnL (w3.heap.size + 1) aL cL aB cB s [netT w3.heap.size s])) (fun i _ => n - (intOf i).toNat)
  case atStart => exact ⟨0, ⟨[], 0⟩, none, 0, none, 0, Nat.zero_le _, rfl, Nat.le_refl _, S5⟩
  case round =>
    obtain ⟨k, s, aL, cL, aB, cB, hk, rfl, hsk, Sk⟩ := hrel
    clear S5
    have hl40 := (Sk.netOk 3 rfl)
    by_cases hlt : k < n
    case neg =>
      have g0 : decide ((k : Int) < (n : Int)) = false := decide_eq_false (by omega)
      have g0n : decide (k < n) = false := decide_eq_false (by omega)
      clear hlt
      go_wp2
      go_ret
      exact ⟨rfl, Sk.fin⟩
    have g0 : decide ((k : Int) < (n : Int)) = true := decide_eq_true (by omega)
    have g0n : decide (k < n) = true := decide_eq_true (by omega)
    have hkl : k < L.length := by rw [HN.out]; exact hlt
    have hAk : AtG eNA wr a L := HA.out.all eNAok Sk.fin
    have i0 := fun wx => idxNA a n cap (fun h => hAk.ok (by omega)) k hlt wx
    obtain ⟨y0, y1, y2, y3, y4, y5, y6, y7, y8, y9, y10, y11, y12, y13⟩ := hAk.actAt hkl
    have hbit := (HOk.out _ (List.getElem_mem hkl)).bit1
    generalize L[k] = x at *
    generalize adr a (k * 14) = A at *
    have S5 : St w (wr.alloc (.cells #[.int .i64 x.kind, .int .i64 x.i, .int .i64 x.bit, .int .i64 x.m.node, .int .i64 x.m.kind, .int .i64 x.m.term, .int .i64 x.m.gen, .int .i64 x.m.job, .int .i64 x.m.inc, .int .i64 x.m.version, .int .i64 x.m.epoch, .int .i64 x.m.until_, .int .i64 x.m.mode, .int .i64 x.m.work] 52)) (rnL (w3.heap.size + 1) aL cL aB cB s [netT w3.heap.size s, cellsT wr.heap.size 52 x.cs]) := Sk.newAt _ _ _ rfl
    have HOk40 := hid hl40
    have hl41 := hl40.1
    clear Sk hAk hl40
    by_cases hk0 : x.kind = 0
    · have g1 : (x.kind == 0) = true := by simpa using hk0
      clear hk0
      obtain ⟨q, hq⟩ : ∃ q, nSend s x.m = q := ⟨_, rfl⟩
      have HS9 : Hid (q.2.sent ≤ k + 1) := by rw [Hid, ← hq]; unfold nSend; split <;> simp <;> omega
      have HQ := hid hq
      have g9 : (q.1 == q.1) = true := by simp
      clear hq
      go_wp2_with fail
      refine wp_region_held_drew (S := (fun w' => (w'.cell? ⟨wr.heap.size, 0, none⟩ = some (.int .i64 x.kind) ∧ w'.cell? ⟨wr.heap.size, 1, none⟩ = some (.int .i64 x.i) ∧ w'.cell? ⟨wr.heap.size, 2, none⟩ = some (.int .i64 x.bit) ∧ w'.cell? ⟨wr.heap.size, 3, none⟩ = some (.int .i64 x.m.node) ∧ w'.cell? ⟨wr.heap.size, 4, none⟩ = some (.int .i64 x.m.kind) ∧ w'.cell? ⟨wr.heap.size, 5, none⟩ = some (.int .i64 x.m.term) ∧ w'.cell? ⟨wr.heap.size, 6, none⟩ = some (.int .i64 x.m.gen) ∧ w'.cell? ⟨wr.heap.size, 7, none⟩ = some (.int .i64 x.m.job) ∧ w'.cell? ⟨wr.heap.size, 8, none⟩ = some (.int .i64 x.m.inc) ∧ w'.cell? ⟨wr.heap.size, 9, none⟩ = some (.int .i64 x.m.version) ∧ w'.cell? ⟨wr.heap.size, 10, none⟩ = some (.int .i64 x.m.epoch) ∧ w'.cell? ⟨wr.heap.size, 11, none⟩ = some (.int .i64 x.m.until_) ∧ w'.cell? ⟨wr.heap.size, 12, none⟩ = some (.int .i64 x.m.mode) ∧ w'.cell? ⟨wr.heap.size, 13, none⟩ = some (.int .i64 x.m.work)))) (by kernel_rfl) (by exact S5.drew.act 4 rfl) (fun hHeld => ?_)
      change wpAnyH _ _ _ _ _ 8 (Array.replicate 8 false) _ _
      refine wpAnyH_take (i := 0) (v := ?v1) (ops_at rfl) (by kernel_rfl) (by kernel_rfl) (by kernel_rfl) (fun _ _ _ h => h) (Or.inl ⟨by rfl, ?hy1⟩) (by assumption) ?rest1
      case hy1 => intro w' hSw; (try dsimp only at hSw); go_simp; try with_reducible rfl
      try simp only [Act.put, List.setIfInBounds_toArray, List.set_cons_zero, List.set_cons_succ]
      refine wpAnyH_take (i := 1) (v := ?v2) (ops_at rfl) (by kernel_rfl) (by kernel_rfl) (by kernel_rfl) (fun _ _ _ h => h) (Or.inl ⟨by rfl, ?hy2⟩) (by assumption) ?rest2
      case hy2 => intro w' hSw; (try dsimp only at hSw); go_simp; try with_reducible rfl
      try simp only [Act.put, List.setIfInBounds_toArray, List.set_cons_zero, List.set_cons_succ]
      refine wpAnyH_take (i := 3) (v := ?v3) (ops_at rfl) (by kernel_rfl) (by kernel_rfl) (by kernel_rfl) (fun _ _ _ h => h) (Or.inl ⟨by rfl, ?hy3⟩) (by assumption) ?rest3
      case hy3 => intro w' hSw; (try dsimp only at hSw); go_simp; try with_reducible rfl
      try simp only [Act.put, List.setIfInBounds_toArray, List.set_cons_zero, List.set_cons_succ]
      refine wpAnyH_take (i := 4) (v := ?v4) (ops_at rfl) (by kernel_rfl) (by kernel_rfl) (by kernel_rfl) (fun _ _ _ h => h) (Or.inl ⟨by rfl, ?hy4⟩) (by assumption) ?rest4
      case hy4 => intro w' hSw; (try dsimp only at hSw); go_simp; try with_reducible rfl
      try simp only [Act.put, List.setIfInBounds_toArray, List.set_cons_zero, List.set_cons_succ]
      refine wpAnyH_ready (rs := [2]) (by kernel_rfl) (by simp) ?_
      refine AllReadyH.cons (ops_at rfl) (fun K hK => ?_) AllReadyH.nil
      go_simp
      refine (hnSend S5.drew 3 rfl (by omega) x.m).mono ?_
      rintro e w6 ⟨rfl, S6⟩
      rw [HQ.out] at S6 ⊢
      have S6' : St w w6 (rnL (w3.heap.size + 1) aL cL aB cB s [netT w3.heap.size q.2, cellsT wr.heap.size 52 x.cs]) := S6
      refine hK.out _ _ (by exact S6'.act 4 rfl) (fun hHeld => ?_)
      clear hK K
      try simp only [Act.put, List.setIfInBounds_toArray, List.set_cons_zero, List.set_cons_succ]
      refine wpAnyH_ready (rs := [5]) (by kernel_rfl) (by simp) ?_
      refine AllReadyH.cons (ops_at rfl) (fun K hK => ?_) AllReadyH.nil
      go_simp
      refine (rnSend_any S6' (by omega) x.m).mono ?_
      rintro e w7 ⟨aL9, cL9, aB9, cB9, rfl, S7⟩
      rw [HQ.out] at S7 ⊢
      have S7' : St w w7 (rnL (w3.heap.size + 1) aL9 cL9 aB9 cB9 q.2 [netT w3.heap.size q.2, cellsT wr.heap.size 52 x.cs]) := S7
      refine hK.out _ _ (by exact S7'.act 4 rfl) (fun hHeld => ?_)
      clear hK K
      try simp only [Act.put, List.setIfInBounds_toArray, List.set_cons_zero, List.set_cons_succ]
      refine wpAnyH_take (i := 6) (v := ?v7) (ops_at rfl) (by kernel_rfl) (by kernel_rfl) (by kernel_rfl) (fun _ _ _ h => h) (Or.inl ⟨by rfl, ?hy7⟩) (by assumption) ?rest7
      case hy7 => intro w' hSw; (try dsimp only at hSw); go_simp; try with_reducible rfl
      try simp only [Act.put, List.setIfInBounds_toArray, List.set_cons_zero, List.set_cons_succ]
      refine wpAnyH_take (i := 7) (v := ?v8) (ops_at rfl) (by kernel_rfl) (by kernel_rfl) (by kernel_rfl) (fun _ _ _ h => h) (Or.inl ⟨by rfl, ?hy8⟩) (by assumption) ?rest8
      case hy8 => intro w' hSw; (try dsimp only at hSw); go_simp; try with_reducible rfl
      try simp only [Act.put, List.setIfInBounds_toArray, List.set_cons_zero, List.set_cons_succ]
      refine wpAnyH_done (by kernel_rfl) ?_ _
      obtain ⟨qb, s9⟩ := q
      have S9 : St w w7 (rnL (w3.heap.size + 1) aL9 cL9 aB9 cB9 s9 [netT w3.heap.size s9]) := S7'.take 4
      clear S5 S6 S6' S7 S7' HQ y0 y1 y2 y3 y4 y5 y6 y7 y8 y9 y10 y11 y12 y13 hHeld
      have hS9 : s9.sent ≤ k + 1 := HS9.out
      have l9 := (S9.netOk 3 rfl).1
      have c9 := S9.cell 0 rfl 0 rfl
      have e9 := S9.cell 0 rfl 2 rfl
      obtain ⟨N9, hN9⟩ : ∃ N9, s9.l.length = N9 := ⟨_, rfl⟩
      obtain ⟨K9, hK9⟩ : ∃ K9, s9.sent = K9 := ⟨_, rfl⟩
      rw [hN9] at l9 c9
      rw [hK9] at e9 hS9
      have HN9 := hid hN9
      have HK9 := hid hK9
      have HC9 : Hid (∀ w', St w w' (rnL (w3.heap.size + 1) aL9 cL9 aB9 cB9 s9 [netT w3.heap.size s9]) → w'.cell? ⟨w3.heap.size + 1, 0, none⟩ = some (.slice aL9 N9 cL9) ∧ w'.cell? ⟨w3.heap.size + 1, 2, none⟩ = some (.int .i64 (K9 : Int))) := by
        intro w' S'
        rw [← hN9, ← hK9]
        exact ⟨S'.cell 0 rfl 0 rfl, S'.cell 0 rfl 2 rfl⟩
      clear hN9 hK9
      have k1 : ((N9 : Int) != (N9 : Int)) = false := by simp
      have k2 : ((K9 : Int) != (K9 : Int)) = false := by simp
      obtain ⟨P9, hP9⟩ : ∃ P9, (nList s9).length = P9 := ⟨_, rfl⟩
      have hP40 : P9 ≤ 40 := by
        have := List.length_filterMap_le NM.shown s9.l
        rw [← hP9]; unfold nList; have := HN9.out; omega
      have HP9 := hid hP9
      clear hP9
      go_wp2_with fail
      refine wp_region_held_drew (S := (fun w' => w'.cell? ⟨w3.heap.size + 1, 0, none⟩ = some (.slice aL9 N9 cL9) ∧ w'.cell? ⟨w3.heap.size + 1, 2, none⟩ = some (.int .i64 (K9 : Int)))) (by kernel_rfl) (by exact HC9.out _ S9.drew) (fun hHeld => ?_)
      change wpAnyH _ _ _ _ _ 21 (Array.replicate 21 false) _ _
      refine wpAnyH_take (i := 0) (v := ?v9) (ops_at rfl) (by kernel_rfl) (by kernel_rfl) (by kernel_rfl) (fun _ _ _ h => h) (Or.inl ⟨by rfl, ?hy9⟩) (by assumption) ?rest9
      case hy9 => intro w' hSw; (try dsimp only at hSw); go_simp; try with_reducible rfl
      try simp only [Act.put, List.setIfInBounds_toArray, List.set_cons_zero, List.set_cons_succ]
      refine wpAnyH_take (i := 1) (v := ?v10) (ops_at rfl) (by kernel_rfl) (by kernel_rfl) (by kernel_rfl) (fun _ _ _ h => h) (Or.inl ⟨by rfl, ?hy10⟩) (by assumption) ?rest10
      case hy10 => intro w' hSw; (try dsimp only at hSw); go_simp; try with_reducible rfl
      try simp only [Act.put, List.setIfInBounds_toArray, List.set_cons_zero, List.set_cons_succ]
      refine wpAnyH_take (i := 2) (v := ?v11) (ops_at rfl) (by kernel_rfl) (by kernel_rfl) (by kernel_rfl) (fun _ _ _ h => h) (Or.inl ⟨by rfl, ?hy11⟩) (by assumption) ?rest11
      case hy11 => intro w' hSw; (try dsimp only at hSw); go_simp; try with_reducible rfl
      try simp only [Act.put, List.setIfInBounds_toArray, List.set_cons_zero, List.set_cons_succ]
      refine wpAnyH_take (i := 4) (v := ?v12) (ops_at rfl) (by kernel_rfl) (by kernel_rfl) (by kernel_rfl) (fun _ _ _ h => h) (Or.inl ⟨by rfl, ?hy12⟩) (by assumption) ?rest12
      case hy12 => intro w' hSw; (try dsimp only at hSw); go_simp; try with_reducible rfl
      try simp only [Act.put, List.setIfInBounds_toArray, List.set_cons_zero, List.set_cons_succ]
      refine wpAnyH_take (i := 5) (v := ?v13) (ops_at rfl) (by kernel_rfl) (by kernel_rfl) (by kernel_rfl) (fun _ _ _ h => h) (Or.inl ⟨by rfl, ?hy13⟩) (by assumption) ?rest13
      case hy13 => intro w' hSw; (try dsimp only at hSw); go_simp; try with_reducible rfl
      try simp only [Act.put, List.setIfInBounds_toArray, List.set_cons_zero, List.set_cons_succ]
      refine wpAnyH_take (i := 6) (v := ?v14) (ops_at rfl) (by kernel_rfl) (by kernel_rfl) (by kernel_rfl) (fun _ _ _ h => h) (Or.inl ⟨by rfl, ?hy14⟩) (by assumption) ?rest14
      case hy14 => intro w' hSw; (try dsimp only at hSw); go_simp; try with_reducible rfl
      try simp only [Act.put, List.setIfInBounds_toArray, List.set_cons_zero, List.set_cons_succ]
      refine wpAnyH_ready (rs := [3]) (by kernel_rfl) (by simp) ?_
      refine AllReadyH.cons (ops_at rfl) (fun K hK => ?_) AllReadyH.nil
      go_simp
      refine (hnLen S9.drew 3 rfl).mono ?_
      rintro e wz ⟨rfl, rfl⟩
      rw [HN9.out]
      refine hK.out _ _ (by exact HC9.out _ S9.drew) (fun hHeld => ?_)
      clear hK K
      try simp only [Act.put, List.setIfInBounds_toArray, List.set_cons_zero, List.set_cons_succ]
      refine wpAnyH_take (i := 7) (v := ?v16) (ops_at rfl) (by kernel_rfl) (by kernel_rfl) (by kernel_rfl) (fun _ _ _ h => h) (Or.inl ⟨by rfl, ?hy16⟩) (by assumption) ?rest16
      case hy16 => intro w' hSw; (try dsimp only at hSw); go_simp; try with_reducible rfl
      try simp only [Act.put, List.setIfInBounds_toArray, List.set_cons_zero, List.set_cons_succ]
      refine wpAnyH_take (i := 8) (v := ?v17) (ops_at rfl) (by kernel_rfl) (by kernel_rfl) (by kernel_rfl) (fun _ _ _ h => h) (Or.inl ⟨by rfl, ?hy17⟩) (by assumption) ?rest17
      case hy17 => intro w' hSw; (try dsimp only at hSw); go_simp; try with_reducible rfl
      try simp only [Act.put, List.setIfInBounds_toArray, List.set_cons_zero, List.set_cons_succ]
      refine wpAnyH_take (i := 9) (v := ?v18) (ops_at rfl) (by kernel_rfl) (by kernel_rfl) (by kernel_rfl) (fun _ _ _ h => h) (Or.inl ⟨by rfl, ?hy18⟩) (by assumption) ?rest18
      case hy18 => intro w' hSw; (try dsimp only at hSw); go_simp; try with_reducible rfl
      try simp only [Act.put, List.setIfInBounds_toArray, List.set_cons_zero, List.set_cons_succ]
      refine wpAnyH_take (i := 11) (v := ?v19) (ops_at rfl) (by kernel_rfl) (by kernel_rfl) (by kernel_rfl) (fun _ _ _ h => h) (Or.inl ⟨by rfl, ?hy19⟩) (by assumption) ?rest19
      case hy19 => intro w' hSw; (try dsimp only at hSw); go_simp; try with_reducible rfl
      try simp only [Act.put, List.setIfInBounds_toArray, List.set_cons_zero, List.set_cons_succ]
      refine wpAnyH_take (i := 12) (v := ?v20) (ops_at rfl) (by kernel_rfl) (by kernel_rfl) (by kernel_rfl) (fun _ _ _ h => h) (Or.inl ⟨by rfl, ?hy20⟩) (by assumption) ?rest20
      case hy20 => intro w' hSw; (try dsimp only at hSw); go_simp; try with_reducible rfl
      try simp only [Act.put, List.setIfInBounds_toArray, List.set_cons_zero, List.set_cons_succ]
      refine wpAnyH_ready (rs := [10]) (by kernel_rfl) (by simp) ?_
      refine AllReadyH.cons (ops_at rfl) (fun K hK => ?_) AllReadyH.nil
      go_simp
      refine (hnSent S9.drew 3 rfl).mono ?_
      rintro e wz ⟨rfl, rfl⟩
      rw [HK9.out]
      refine hK.out _ _ (by exact HC9.out _ S9.drew) (fun hHeld => ?_)
      clear hK K
      try simp only [Act.put, List.setIfInBounds_toArray, List.set_cons_zero, List.set_cons_succ]
      refine wpAnyH_take (i := 13) (v := ?v22) (ops_at rfl) (by kernel_rfl) (by kernel_rfl) (by kernel_rfl) (fun _ _ _ h => h) (Or.inl ⟨by rfl, ?hy22⟩) (by assumption) ?rest22
      case hy22 => intro w' hSw; (try dsimp only at hSw); go_simp; try with_reducible rfl
      try simp only [Act.put, List.setIfInBounds_toArray, List.set_cons_zero, List.set_cons_succ]
      refine wpAnyH_take (i := 14) (v := ?v23) (ops_at rfl) (by kernel_rfl) (by kernel_rfl) (by kernel_rfl) (fun _ _ _ h => h) (Or.inl ⟨by rfl, ?hy23⟩) (by assumption) ?rest23
      case hy23 => intro w' hSw; (try dsimp only at hSw); go_simp; try with_reducible rfl
      try simp only [Act.put, List.setIfInBounds_toArray, List.set_cons_zero, List.set_cons_succ]
      refine wpAnyH_take (i := 15) (v := ?v24) (ops_at rfl) (by kernel_rfl) (by kernel_rfl) (by kernel_rfl) (fun _ _ _ h => h) (Or.inl ⟨by rfl, ?hy24⟩) (by assumption) ?rest24
      case hy24 => intro w' hSw; (try dsimp only at hSw); go_simp; try with_reducible rfl
      try simp only [Act.put, List.setIfInBounds_toArray, List.set_cons_zero, List.set_cons_succ]
      refine wpAnyH_ready (rs := [16]) (by kernel_rfl) (by simp) ?_
      refine AllReadyH.cons (ops_at rfl) (fun K hK => ?_) AllReadyH.nil
      go_simp
      refine (hnList S9.drew 3 rfl P9 HP9.out).mono ?_
      rintro e wa9 ⟨a91, c91, rfl, T1⟩
      refine hK.out _ _ (by exact HC9.out _ (T1.take 4)) (fun hHeld => ?_)
      clear hK K
      try simp only [Act.put, List.setIfInBounds_toArray, List.set_cons_zero, List.set_cons_succ]
      refine wpAnyH_ready (rs := [17]) (by kernel_rfl) (by simp) ?_
      refine AllReadyH.cons (ops_at rfl) (fun K hK => ?_) AllReadyH.nil
      go_simp
      refine (rnList_any T1 (by have := HN9.out; omega)).mono ?_
      rintro e wb9 ⟨a92, c92, rfl, T2⟩
      rw [HP9.out] at T2 ⊢
      have T3 : St w wb9 (rnL (w3.heap.size + 1) aL9 cL9 aB9 cB9 s9 [netT w3.heap.size s9]) := T2.tail.take 4
      refine hK.out _ _ (by exact HC9.out _ T3) (fun hHeld => ?_)
      clear hK K
      try simp only [Act.put, List.setIfInBounds_toArray, List.set_cons_zero, List.set_cons_succ]
      refine wpAnyH_ready (rs := [18]) (by kernel_rfl) (by simp) ?_
      refine AllReadyH.cons (ops_at rfl) (fun K hK => ?_) AllReadyH.nil
      go_simp
      refine (msame_any a91 a92 (nList s9) P9 c91 c92 _ HP9.out (by omega) (by exact (T2.slG eMok 5 rfl).2.2.2.2) (by exact (T2.slG eMok 0 rfl).2.2.2.2)).mono ?_
      rintro e wc9 ⟨rfl, hb9⟩
      have T4 := T3.grow hb9
      refine hK.out _ _ (by exact HC9.out _ T4) (fun hHeld => ?_)
      clear hK K
      try simp only [Act.put, List.setIfInBounds_toArray, List.set_cons_zero, List.set_cons_succ]
      refine wpAnyH_take (i := 19) (v := ?v28) (ops_at rfl) (by kernel_rfl) (by kernel_rfl) (by kernel_rfl) (fun _ _ _ h => h) (Or.inl ⟨by rfl, ?hy28⟩) (by assumption) ?rest28
      case hy28 => intro w' hSw; (try dsimp only at hSw); go_simp; try with_reducible rfl
      try simp only [Act.put, List.setIfInBounds_toArray, List.set_cons_zero, List.set_cons_succ]
      refine wpAnyH_take (i := 20) (v := ?v29) (ops_at rfl) (by kernel_rfl) (by kernel_rfl) (by kernel_rfl) (fun _ _ _ h => h) (Or.inl ⟨by rfl, ?hy29⟩) (by assumption) ?rest29
      case hy29 => intro w' hSw; (try dsimp only at hSw); go_simp; try with_reducible rfl
      try simp only [Act.put, List.setIfInBounds_toArray, List.set_cons_zero, List.set_cons_succ]
      refine wpAnyH_done (by kernel_rfl) ?_ _
      go_wp2
      go_roundw
      case rel => exact ⟨k + 1, s9, aL9, cL9, aB9, cB9, by omega, by go_num, HS9.out, T4⟩
      case measure => simp [intOf]; omega
    have g1 : (x.kind == 0) = false := by simpa using hk0
    clear hk0
    by_cases hk1 : x.kind = 1
    · have g2 : (x.kind == 1) = true := by simpa using hk1
      clear hk1
      obtain ⟨q, hq⟩ : ∃ q, nDeliver s x.i = q := ⟨_, rfl⟩
      have HS9 : Hid (q.2.sent ≤ k + 1) := by rw [Hid, ← hq]; unfold nDeliver; split <;> simp <;> omega
      have HQ := hid hq
      clear hq
      go_wp2_with fail
      refine (hnDeliver S5 3 rfl x.i).mono ?_
      rintro e w6 ⟨hp6, S6⟩
      rw [HQ.out] at S6 hp6
      obtain ⟨y, t, hy1, hy2, rfl⟩ := hp6.val
      have S6' : St w (w6.alloc (.cells #[.int .i64 y.node, .int .i64 y.kind, .int .i64 y.term, .int .i64 y.gen, .int .i64 y.job, .int .i64 y.inc, .int .i64 y.version, .int .i64 y.epoch, .int .i64 y.until_, .int .i64 y.mode, .int .i64 y.work] 23)) (rnL (w3.heap.size + 1) aL cL aB cB s [netT w3.heap.size q.2, cellsT wr.heap.size 52 x.cs, cellsT w6.heap.size 23 y.cs]) := St.newAt S6 _ _ _ rfl
      clear hp6 S6 S5 y0 y1 y2 y3 y4 y5 y6 y7 y8 y9 y10 y11 y12 y13
      obtain ⟨y0, y1, y2, y3, y4, y5, y6, y7, y8, y9, y10, y11, y12, y13⟩ := S6'.act 4 rfl
      go_wp2_with fail
      refine (rnDeliver_any S6' hl41 x.i).mono ?_
      rintro e w7 ⟨aL9, cL9, aB9, cB9, hp7, S7⟩
      rw [HQ.out] at S7 hp7
      obtain ⟨y', t', hy1', hy2', rfl⟩ := hp7.val
      obtain ⟨rfl, rfl⟩ := GetMPost.same hy1 hy2 hy1' hy2'
      have S7' : St w (w7.alloc (.cells #[.int .i64 y.node, .int .i64 y.kind, .int .i64 y.term, .int .i64 y.gen, .int .i64 y.job, .int .i64 y.inc, .int .i64 y.version, .int .i64 y.epoch, .int .i64 y.until_, .int .i64 y.mode, .int .i64 y.work] 23)) (rnL (w3.heap.size + 1) aL9 cL9 aB9 cB9 q.2 [netT w3.heap.size q.2, cellsT wr.heap.size 52 x.cs, cellsT w6.heap.size 23 y.cs, cellsT w7.heap.size 23 y.cs]) := St.newAt S7 _ _ _ rfl
      clear hp7 S7 S6' hy1 hy2 hy1' hy2' y0 y1 y2 y3 y4 y5 y6 y7 y8 y9 y10 y11 y12 y13
      obtain ⟨x0, x1, x2, x3, x4, x5, x6, x7, x8, x9, x10⟩ := S7'.msg 5 rfl
      obtain ⟨z0, z1, z2, z3, z4, z5, z6, z7, z8, z9, z10⟩ := S7'.msg 6 rfl
      have q1 := fun wx => eqM y y wx
      rw [Msg.eq_self] at q1
      have g9 : (t == t) = true := by simp
      obtain ⟨qb, s9⟩ := q
      have S9 : St w (w7.alloc (.cells #[.int .i64 y.node, .int .i64 y.kind, .int .i64 y.term, .int .i64 y.gen, .int .i64 y.job, .int .i64 y.inc, .int .i64 y.version, .int .i64 y.epoch, .int .i64 y.until_, .int .i64 y.mode, .int .i64 y.work] 23)) (rnL (w3.heap.size + 1) aL9 cL9 aB9 cB9 s9 [netT w3.heap.size s9]) := S7'.take 4
      clear S7' HQ
      have hS9 : s9.sent ≤ k + 1 := HS9.out
      have l9 := (S9.netOk 3 rfl).1
      have c9 := S9.cell 0 rfl 0 rfl
      have e9 := S9.cell 0 rfl 2 rfl
      obtain ⟨N9, hN9⟩ : ∃ N9, s9.l.length = N9 := ⟨_, rfl⟩
      obtain ⟨K9, hK9⟩ : ∃ K9, s9.sent = K9 := ⟨_, rfl⟩
      rw [hN9] at l9 c9
      rw [hK9] at e9 hS9
      have HN9 := hid hN9
      have HK9 := hid hK9
      have HC9 : Hid (∀ w', St w w' (rnL (w3.heap.size + 1) aL9 cL9 aB9 cB9 s9 [netT w3.heap.size s9]) → w'.cell? ⟨w3.heap.size + 1, 0, none⟩ = some (.slice aL9 N9 cL9) ∧ w'.cell? ⟨w3.heap.size + 1, 2, none⟩ = some (.int .i64 (K9 : Int))) := by
        intro w' S'
        rw [← hN9, ← hK9]
        exact ⟨S'.cell 0 rfl 0 rfl, S'.cell 0 rfl 2 rfl⟩
      clear hN9 hK9
      have k1 : ((N9 : Int) != (N9 : Int)) = false := by simp
      have k2 : ((K9 : Int) != (K9 : Int)) = false := by simp
      obtain ⟨P9, hP9⟩ : ∃ P9, (nList s9).length = P9 := ⟨_, rfl⟩
      have hP40 : P9 ≤ 40 := by
        have := List.length_filterMap_le NM.shown s9.l
        rw [← hP9]; unfold nList; have := HN9.out; omega
      have HP9 := hid hP9
      clear hP9
      go_wp2_with fail
      refine wp_region_held_drew (S := (fun w' => w'.cell? ⟨w3.heap.size + 1, 0, none⟩ = some (.slice aL9 N9 cL9) ∧ w'.cell? ⟨w3.heap.size + 1, 2, none⟩ = some (.int .i64 (K9 : Int)))) (by kernel_rfl) (by exact HC9.out _ S9.drew) (fun hHeld => ?_)
      change wpAnyH _ _ _ _ _ 21 (Array.replicate 21 false) _ _
      refine wpAnyH_take (i := 0) (v := ?v30) (ops_at rfl) (by kernel_rfl) (by kernel_rfl) (by kernel_rfl) (fun _ _ _ h => h) (Or.inl ⟨by rfl, ?hy30⟩) (by assumption) ?rest30
      case hy30 => intro w' hSw; (try dsimp only at hSw); go_simp; try with_reducible rfl
      try simp only [Act.put, List.setIfInBounds_toArray, List.set_cons_zero, List.set_cons_succ]
      refine wpAnyH_take (i := 1) (v := ?v31) (ops_at rfl) (by kernel_rfl) (by kernel_rfl) (by kernel_rfl) (fun _ _ _ h => h) (Or.inl ⟨by rfl, ?hy31⟩) (by assumption) ?rest31
      case hy31 => intro w' hSw; (try dsimp only at hSw); go_simp; try with_reducible rfl
      try simp only [Act.put, List.setIfInBounds_toArray, List.set_cons_zero, List.set_cons_succ]
      refine wpAnyH_take (i := 2) (v := ?v32) (ops_at rfl) (by kernel_rfl) (by kernel_rfl) (by kernel_rfl) (fun _ _ _ h => h) (Or.inl ⟨by rfl, ?hy32⟩) (by assumption) ?rest32
      case hy32 => intro w' hSw; (try dsimp only at hSw); go_simp; try with_reducible rfl
      try simp only [Act.put, List.setIfInBounds_toArray, List.set_cons_zero, List.set_cons_succ]
      refine wpAnyH_take (i := 4) (v := ?v33) (ops_at rfl) (by kernel_rfl) (by kernel_rfl) (by kernel_rfl) (fun _ _ _ h => h) (Or.inl ⟨by rfl, ?hy33⟩) (by assumption) ?rest33
      case hy33 => intro w' hSw; (try dsimp only at hSw); go_simp; try with_reducible rfl
      try simp only [Act.put, List.setIfInBounds_toArray, List.set_cons_zero, List.set_cons_succ]
      refine wpAnyH_take (i := 5) (v := ?v34) (ops_at rfl) (by kernel_rfl) (by kernel_rfl) (by kernel_rfl) (fun _ _ _ h => h) (Or.inl ⟨by rfl, ?hy34⟩) (by assumption) ?rest34
      case hy34 => intro w' hSw; (try dsimp only at hSw); go_simp; try with_reducible rfl
      try simp only [Act.put, List.setIfInBounds_toArray, List.set_cons_zero, List.set_cons_succ]
      refine wpAnyH_take (i := 6) (v := ?v35) (ops_at rfl) (by kernel_rfl) (by kernel_rfl) (by kernel_rfl) (fun _ _ _ h => h) (Or.inl ⟨by rfl, ?hy35⟩) (by assumption) ?rest35
      case hy35 => intro w' hSw; (try dsimp only at hSw); go_simp; try with_reducible rfl
      try simp only [Act.put, List.setIfInBounds_toArray, List.set_cons_zero, List.set_cons_succ]
      refine wpAnyH_ready (rs := [3]) (by kernel_rfl) (by simp) ?_
      refine AllReadyH.cons (ops_at rfl) (fun K hK => ?_) AllReadyH.nil
      go_simp
      refine (hnLen S9.drew 3 rfl).mono ?_
      rintro e wz ⟨rfl, rfl⟩
      rw [HN9.out]
      refine hK.out _ _ (by exact HC9.out _ S9.drew) (fun hHeld => ?_)
      clear hK K
      try simp only [Act.put, List.setIfInBounds_toArray, List.set_cons_zero, List.set_cons_succ]
      refine wpAnyH_take (i := 7) (v := ?v37) (ops_at rfl) (by kernel_rfl) (by kernel_rfl) (by kernel_rfl) (fun _ _ _ h => h) (Or.inl ⟨by rfl, ?hy37⟩) (by assumption) ?rest37
      case hy37 => intro w' hSw; (try dsimp only at hSw); go_simp; try with_reducible rfl
      try simp only [Act.put, List.setIfInBounds_toArray, List.set_cons_zero, List.set_cons_succ]
      refine wpAnyH_take (i := 8) (v := ?v38) (ops_at rfl) (by kernel_rfl) (by kernel_rfl) (by kernel_rfl) (fun _ _ _ h => h) (Or.inl ⟨by rfl, ?hy38⟩) (by assumption) ?rest38
      case hy38 => intro w' hSw; (try dsimp only at hSw); go_simp; try with_reducible rfl
      try simp only [Act.put, List.setIfInBounds_toArray, List.set_cons_zero, List.set_cons_succ]
      refine wpAnyH_take (i := 9) (v := ?v39) (ops_at rfl) (by kernel_rfl) (by kernel_rfl) (by kernel_rfl) (fun _ _ _ h => h) (Or.inl ⟨by rfl, ?hy39⟩) (by assumption) ?rest39
      case hy39 => intro w' hSw; (try dsimp only at hSw); go_simp; try with_reducible rfl
      try simp only [Act.put, List.setIfInBounds_toArray, List.set_cons_zero, List.set_cons_succ]
      refine wpAnyH_take (i := 11) (v := ?v40) (ops_at rfl) (by kernel_rfl) (by kernel_rfl) (by kernel_rfl) (fun _ _ _ h => h) (Or.inl ⟨by rfl, ?hy40⟩) (by assumption) ?rest40
      case hy40 => intro w' hSw; (try dsimp only at hSw); go_simp; try with_reducible rfl
      try simp only [Act.put, List.setIfInBounds_toArray, List.set_cons_zero, List.set_cons_succ]
      refine wpAnyH_take (i := 12) (v := ?v41) (ops_at rfl) (by kernel_rfl) (by kernel_rfl) (by kernel_rfl) (fun _ _ _ h => h) (Or.inl ⟨by rfl, ?hy41⟩) (by assumption) ?rest41
      case hy41 => intro w' hSw; (try dsimp only at hSw); go_simp; try with_reducible rfl
      try simp only [Act.put, List.setIfInBounds_toArray, List.set_cons_zero, List.set_cons_succ]
      refine wpAnyH_ready (rs := [10]) (by kernel_rfl) (by simp) ?_
      refine AllReadyH.cons (ops_at rfl) (fun K hK => ?_) AllReadyH.nil
      go_simp
      refine (hnSent S9.drew 3 rfl).mono ?_
      rintro e wz ⟨rfl, rfl⟩
      rw [HK9.out]
      refine hK.out _ _ (by exact HC9.out _ S9.drew) (fun hHeld => ?_)
      clear hK K
      try simp only [Act.put, List.setIfInBounds_toArray, List.set_cons_zero, List.set_cons_succ]
      refine wpAnyH_take (i := 13) (v := ?v43) (ops_at rfl) (by kernel_rfl) (by kernel_rfl) (by kernel_rfl) (fun _ _ _ h => h) (Or.inl ⟨by rfl, ?hy43⟩) (by assumption) ?rest43
      case hy43 => intro w' hSw; (try dsimp only at hSw); go_simp; try with_reducible rfl
      try simp only [Act.put, List.setIfInBounds_toArray, List.set_cons_zero, List.set_cons_succ]
      refine wpAnyH_take (i := 14) (v := ?v44) (ops_at rfl) (by kernel_rfl) (by kernel_rfl) (by kernel_rfl) (fun _ _ _ h => h) (Or.inl ⟨by rfl, ?hy44⟩) (by assumption) ?rest44
      case hy44 => intro w' hSw; (try dsimp only at hSw); go_simp; try with_reducible rfl
      try simp only [Act.put, List.setIfInBounds_toArray, List.set_cons_zero, List.set_cons_succ]
      refine wpAnyH_take (i := 15) (v := ?v45) (ops_at rfl) (by kernel_rfl) (by kernel_rfl) (by kernel_rfl) (fun _ _ _ h => h) (Or.inl ⟨by rfl, ?hy45⟩) (by assumption) ?rest45
      case hy45 => intro w' hSw; (try dsimp only at hSw); go_simp; try with_reducible rfl
      try simp only [Act.put, List.setIfInBounds_toArray, List.set_cons_zero, List.set_cons_succ]
      refine wpAnyH_ready (rs := [16]) (by kernel_rfl) (by simp) ?_
      refine AllReadyH.cons (ops_at rfl) (fun K hK => ?_) AllReadyH.nil
      go_simp
      refine (hnList S9.drew 3 rfl P9 HP9.out).mono ?_
      rintro e wa9 ⟨a91, c91, rfl, T1⟩
      refine hK.out _ _ (by exact HC9.out _ (T1.take 4)) (fun hHeld => ?_)
      clear hK K
      try simp only [Act.put, List.setIfInBounds_toArray, List.set_cons_zero, List.set_cons_succ]
      refine wpAnyH_ready (rs := [17]) (by kernel_rfl) (by simp) ?_
      refine AllReadyH.cons (ops_at rfl) (fun K hK => ?_) AllReadyH.nil
      go_simp
      refine (rnList_any T1 (by have := HN9.out; omega)).mono ?_
      rintro e wb9 ⟨a92, c92, rfl, T2⟩
      rw [HP9.out] at T2 ⊢
      have T3 : St w wb9 (rnL (w3.heap.size + 1) aL9 cL9 aB9 cB9 s9 [netT w3.heap.size s9]) := T2.tail.take 4
      refine hK.out _ _ (by exact HC9.out _ T3) (fun hHeld => ?_)
      clear hK K
      try simp only [Act.put, List.setIfInBounds_toArray, List.set_cons_zero, List.set_cons_succ]
      refine wpAnyH_ready (rs := [18]) (by kernel_rfl) (by simp) ?_
      refine AllReadyH.cons (ops_at rfl) (fun K hK => ?_) AllReadyH.nil
      go_simp
      refine (msame_any a91 a92 (nList s9) P9 c91 c92 _ HP9.out (by omega) (by exact (T2.slG eMok 5 rfl).2.2.2.2) (by exact (T2.slG eMok 0 rfl).2.2.2.2)).mono ?_
      rintro e wc9 ⟨rfl, hb9⟩
      have T4 := T3.grow hb9
      refine hK.out _ _ (by exact HC9.out _ T4) (fun hHeld => ?_)
      clear hK K
      try simp only [Act.put, List.setIfInBounds_toArray, List.set_cons_zero, List.set_cons_succ]
      refine wpAnyH_take (i := 19) (v := ?v49) (ops_at rfl) (by kernel_rfl) (by kernel_rfl) (by kernel_rfl) (fun _ _ _ h => h) (Or.inl ⟨by rfl, ?hy49⟩) (by assumption) ?rest49
      case hy49 => intro w' hSw; (try dsimp only at hSw); go_simp; try with_reducible rfl
      try simp only [Act.put, List.setIfInBounds_toArray, List.set_cons_zero, List.set_cons_succ]
      refine wpAnyH_take (i := 20) (v := ?v50) (ops_at rfl) (by kernel_rfl) (by kernel_rfl) (by kernel_rfl) (fun _ _ _ h => h) (Or.inl ⟨by rfl, ?hy50⟩) (by assumption) ?rest50
      case hy50 => intro w' hSw; (try dsimp only at hSw); go_simp; try with_reducible rfl
      try simp only [Act.put, List.setIfInBounds_toArray, List.set_cons_zero, List.set_cons_succ]
      refine wpAnyH_done (by kernel_rfl) ?_ _
      go_wp2
      go_roundw
      case rel => exact ⟨k + 1, s9, aL9, cL9, aB9, cB9, by omega, by go_num, HS9.out, T4⟩
      case measure => simp [intOf]; omega
    have g2 : (x.kind == 1) = false := by simpa using hk1
    clear hk1
    by_cases hk2 : x.kind = 2
    · have g3 : (x.kind == 2) = true := by simpa using hk2
      clear hk2
      obtain ⟨q, hq⟩ : ∃ q, nDrop s x.i = q := ⟨_, rfl⟩
      have HS9 : Hid (q.2.sent ≤ k + 1) := by rw [Hid, ← hq]; unfold nDrop; split <;> simp <;> omega
      have HQ := hid hq
      have g9 : (q.1 == q.1) = true := by simp
      clear hq
      go_wp2_with fail
      refine wp_region_held_drew (S := (fun w' => (w'.cell? ⟨wr.heap.size, 0, none⟩ = some (.int .i64 x.kind) ∧ w'.cell? ⟨wr.heap.size, 1, none⟩ = some (.int .i64 x.i) ∧ w'.cell? ⟨wr.heap.size, 2, none⟩ = some (.int .i64 x.bit) ∧ w'.cell? ⟨wr.heap.size, 3, none⟩ = some (.int .i64 x.m.node) ∧ w'.cell? ⟨wr.heap.size, 4, none⟩ = some (.int .i64 x.m.kind) ∧ w'.cell? ⟨wr.heap.size, 5, none⟩ = some (.int .i64 x.m.term) ∧ w'.cell? ⟨wr.heap.size, 6, none⟩ = some (.int .i64 x.m.gen) ∧ w'.cell? ⟨wr.heap.size, 7, none⟩ = some (.int .i64 x.m.job) ∧ w'.cell? ⟨wr.heap.size, 8, none⟩ = some (.int .i64 x.m.inc) ∧ w'.cell? ⟨wr.heap.size, 9, none⟩ = some (.int .i64 x.m.version) ∧ w'.cell? ⟨wr.heap.size, 10, none⟩ = some (.int .i64 x.m.epoch) ∧ w'.cell? ⟨wr.heap.size, 11, none⟩ = some (.int .i64 x.m.until_) ∧ w'.cell? ⟨wr.heap.size, 12, none⟩ = some (.int .i64 x.m.mode) ∧ w'.cell? ⟨wr.heap.size, 13, none⟩ = some (.int .i64 x.m.work)))) (by kernel_rfl) (by exact S5.drew.act 4 rfl) (fun hHeld => ?_)
      change wpAnyH _ _ _ _ _ 8 (Array.replicate 8 false) _ _
      refine wpAnyH_take (i := 0) (v := ?v51) (ops_at rfl) (by kernel_rfl) (by kernel_rfl) (by kernel_rfl) (fun _ _ _ h => h) (Or.inl ⟨by rfl, ?hy51⟩) (by assumption) ?rest51
      case hy51 => intro w' hSw; (try dsimp only at hSw); go_simp; try with_reducible rfl
      try simp only [Act.put, List.setIfInBounds_toArray, List.set_cons_zero, List.set_cons_succ]
      refine wpAnyH_take (i := 1) (v := ?v52) (ops_at rfl) (by kernel_rfl) (by kernel_rfl) (by kernel_rfl) (fun _ _ _ h => h) (Or.inl ⟨by rfl, ?hy52⟩) (by assumption) ?rest52
      case hy52 => intro w' hSw; (try dsimp only at hSw); go_simp; try with_reducible rfl
      try simp only [Act.put, List.setIfInBounds_toArray, List.set_cons_zero, List.set_cons_succ]
      refine wpAnyH_take (i := 3) (v := ?v53) (ops_at rfl) (by kernel_rfl) (by kernel_rfl) (by kernel_rfl) (fun _ _ _ h => h) (Or.inl ⟨by rfl, ?hy53⟩) (by assumption) ?rest53
      case hy53 => intro w' hSw; (try dsimp only at hSw); go_simp; try with_reducible rfl
      try simp only [Act.put, List.setIfInBounds_toArray, List.set_cons_zero, List.set_cons_succ]
      refine wpAnyH_take (i := 4) (v := ?v54) (ops_at rfl) (by kernel_rfl) (by kernel_rfl) (by kernel_rfl) (fun _ _ _ h => h) (Or.inl ⟨by rfl, ?hy54⟩) (by assumption) ?rest54
      case hy54 => intro w' hSw; (try dsimp only at hSw); go_simp; try with_reducible rfl
      try simp only [Act.put, List.setIfInBounds_toArray, List.set_cons_zero, List.set_cons_succ]
      refine wpAnyH_ready (rs := [2]) (by kernel_rfl) (by simp) ?_
      refine AllReadyH.cons (ops_at rfl) (fun K hK => ?_) AllReadyH.nil
      go_simp
      refine (hnDrop S5.drew 3 rfl x.i).mono ?_
      rintro e w6 ⟨rfl, S6⟩
      rw [HQ.out] at S6 ⊢
      have S6' : St w w6 (rnL (w3.heap.size + 1) aL cL aB cB s [netT w3.heap.size q.2, cellsT wr.heap.size 52 x.cs]) := S6
      refine hK.out _ _ (by exact S6'.act 4 rfl) (fun hHeld => ?_)
      clear hK K
      try simp only [Act.put, List.setIfInBounds_toArray, List.set_cons_zero, List.set_cons_succ]
      refine wpAnyH_ready (rs := [5]) (by kernel_rfl) (by simp) ?_
      refine AllReadyH.cons (ops_at rfl) (fun K hK => ?_) AllReadyH.nil
      go_simp
      refine (rnDrop_any S6' hl41 x.i).mono ?_
      rintro e w7 ⟨aL9, cL9, aB9, cB9, rfl, S7⟩
      rw [HQ.out] at S7 ⊢
      have S7' : St w w7 (rnL (w3.heap.size + 1) aL9 cL9 aB9 cB9 q.2 [netT w3.heap.size q.2, cellsT wr.heap.size 52 x.cs]) := S7
      refine hK.out _ _ (by exact S7'.act 4 rfl) (fun hHeld => ?_)
      clear hK K
      try simp only [Act.put, List.setIfInBounds_toArray, List.set_cons_zero, List.set_cons_succ]
      refine wpAnyH_take (i := 6) (v := ?v57) (ops_at rfl) (by kernel_rfl) (by kernel_rfl) (by kernel_rfl) (fun _ _ _ h => h) (Or.inl ⟨by rfl, ?hy57⟩) (by assumption) ?rest57
      case hy57 => intro w' hSw; (try dsimp only at hSw); go_simp; try with_reducible rfl
      try simp only [Act.put, List.setIfInBounds_toArray, List.set_cons_zero, List.set_cons_succ]
      refine wpAnyH_take (i := 7) (v := ?v58) (ops_at rfl) (by kernel_rfl) (by kernel_rfl) (by kernel_rfl) (fun _ _ _ h => h) (Or.inl ⟨by rfl, ?hy58⟩) (by assumption) ?rest58
      case hy58 => intro w' hSw; (try dsimp only at hSw); go_simp; try with_reducible rfl
      try simp only [Act.put, List.setIfInBounds_toArray, List.set_cons_zero, List.set_cons_succ]
      refine wpAnyH_done (by kernel_rfl) ?_ _
      obtain ⟨qb, s9⟩ := q
      have S9 : St w w7 (rnL (w3.heap.size + 1) aL9 cL9 aB9 cB9 s9 [netT w3.heap.size s9]) := S7'.take 4
      clear S5 S6 S6' S7 S7' HQ y0 y1 y2 y3 y4 y5 y6 y7 y8 y9 y10 y11 y12 y13 hHeld
      have hS9 : s9.sent ≤ k + 1 := HS9.out
      have l9 := (S9.netOk 3 rfl).1
      have c9 := S9.cell 0 rfl 0 rfl
      have e9 := S9.cell 0 rfl 2 rfl
      obtain ⟨N9, hN9⟩ : ∃ N9, s9.l.length = N9 := ⟨_, rfl⟩
      obtain ⟨K9, hK9⟩ : ∃ K9, s9.sent = K9 := ⟨_, rfl⟩
      rw [hN9] at l9 c9
      rw [hK9] at e9 hS9
      have HN9 := hid hN9
      have HK9 := hid hK9
      have HC9 : Hid (∀ w', St w w' (rnL (w3.heap.size + 1) aL9 cL9 aB9 cB9 s9 [netT w3.heap.size s9]) → w'.cell? ⟨w3.heap.size + 1, 0, none⟩ = some (.slice aL9 N9 cL9) ∧ w'.cell? ⟨w3.heap.size + 1, 2, none⟩ = some (.int .i64 (K9 : Int))) := by
        intro w' S'
        rw [← hN9, ← hK9]
        exact ⟨S'.cell 0 rfl 0 rfl, S'.cell 0 rfl 2 rfl⟩
      clear hN9 hK9
      have k1 : ((N9 : Int) != (N9 : Int)) = false := by simp
      have k2 : ((K9 : Int) != (K9 : Int)) = false := by simp
      obtain ⟨P9, hP9⟩ : ∃ P9, (nList s9).length = P9 := ⟨_, rfl⟩
      have hP40 : P9 ≤ 40 := by
        have := List.length_filterMap_le NM.shown s9.l
        rw [← hP9]; unfold nList; have := HN9.out; omega
      have HP9 := hid hP9
      clear hP9
      go_wp2_with fail
      refine wp_region_held_drew (S := (fun w' => w'.cell? ⟨w3.heap.size + 1, 0, none⟩ = some (.slice aL9 N9 cL9) ∧ w'.cell? ⟨w3.heap.size + 1, 2, none⟩ = some (.int .i64 (K9 : Int)))) (by kernel_rfl) (by exact HC9.out _ S9.drew) (fun hHeld => ?_)
      change wpAnyH _ _ _ _ _ 21 (Array.replicate 21 false) _ _
      refine wpAnyH_take (i := 0) (v := ?v59) (ops_at rfl) (by kernel_rfl) (by kernel_rfl) (by kernel_rfl) (fun _ _ _ h => h) (Or.inl ⟨by rfl, ?hy59⟩) (by assumption) ?rest59
      case hy59 => intro w' hSw; (try dsimp only at hSw); go_simp; try with_reducible rfl
      try simp only [Act.put, List.setIfInBounds_toArray, List.set_cons_zero, List.set_cons_succ]
      refine wpAnyH_take (i := 1) (v := ?v60) (ops_at rfl) (by kernel_rfl) (by kernel_rfl) (by kernel_rfl) (fun _ _ _ h => h) (Or.inl ⟨by rfl, ?hy60⟩) (by assumption) ?rest60
      case hy60 => intro w' hSw; (try dsimp only at hSw); go_simp; try with_reducible rfl
      try simp only [Act.put, List.setIfInBounds_toArray, List.set_cons_zero, List.set_cons_succ]
      refine wpAnyH_take (i := 2) (v := ?v61) (ops_at rfl) (by kernel_rfl) (by kernel_rfl) (by kernel_rfl) (fun _ _ _ h => h) (Or.inl ⟨by rfl, ?hy61⟩) (by assumption) ?rest61
      case hy61 => intro w' hSw; (try dsimp only at hSw); go_simp; try with_reducible rfl
      try simp only [Act.put, List.setIfInBounds_toArray, List.set_cons_zero, List.set_cons_succ]
      refine wpAnyH_take (i := 4) (v := ?v62) (ops_at rfl) (by kernel_rfl) (by kernel_rfl) (by kernel_rfl) (fun _ _ _ h => h) (Or.inl ⟨by rfl, ?hy62⟩) (by assumption) ?rest62
      case hy62 => intro w' hSw; (try dsimp only at hSw); go_simp; try with_reducible rfl
      try simp only [Act.put, List.setIfInBounds_toArray, List.set_cons_zero, List.set_cons_succ]
      refine wpAnyH_take (i := 5) (v := ?v63) (ops_at rfl) (by kernel_rfl) (by kernel_rfl) (by kernel_rfl) (fun _ _ _ h => h) (Or.inl ⟨by rfl, ?hy63⟩) (by assumption) ?rest63
      case hy63 => intro w' hSw; (try dsimp only at hSw); go_simp; try with_reducible rfl
      try simp only [Act.put, List.setIfInBounds_toArray, List.set_cons_zero, List.set_cons_succ]
      refine wpAnyH_take (i := 6) (v := ?v64) (ops_at rfl) (by kernel_rfl) (by kernel_rfl) (by kernel_rfl) (fun _ _ _ h => h) (Or.inl ⟨by rfl, ?hy64⟩) (by assumption) ?rest64
      case hy64 => intro w' hSw; (try dsimp only at hSw); go_simp; try with_reducible rfl
      try simp only [Act.put, List.setIfInBounds_toArray, List.set_cons_zero, List.set_cons_succ]
      refine wpAnyH_ready (rs := [3]) (by kernel_rfl) (by simp) ?_
      refine AllReadyH.cons (ops_at rfl) (fun K hK => ?_) AllReadyH.nil
      go_simp
      refine (hnLen S9.drew 3 rfl).mono ?_
      rintro e wz ⟨rfl, rfl⟩
      rw [HN9.out]
      refine hK.out _ _ (by exact HC9.out _ S9.drew) (fun hHeld => ?_)
      clear hK K
      try simp only [Act.put, List.setIfInBounds_toArray, List.set_cons_zero, List.set_cons_succ]
      refine wpAnyH_take (i := 7) (v := ?v66) (ops_at rfl) (by kernel_rfl) (by kernel_rfl) (by kernel_rfl) (fun _ _ _ h => h) (Or.inl ⟨by rfl, ?hy66⟩) (by assumption) ?rest66
      case hy66 => intro w' hSw; (try dsimp only at hSw); go_simp; try with_reducible rfl
      try simp only [Act.put, List.setIfInBounds_toArray, List.set_cons_zero, List.set_cons_succ]
      refine wpAnyH_take (i := 8) (v := ?v67) (ops_at rfl) (by kernel_rfl) (by kernel_rfl) (by kernel_rfl) (fun _ _ _ h => h) (Or.inl ⟨by rfl, ?hy67⟩) (by assumption) ?rest67
      case hy67 => intro w' hSw; (try dsimp only at hSw); go_simp; try with_reducible rfl
      try simp only [Act.put, List.setIfInBounds_toArray, List.set_cons_zero, List.set_cons_succ]
      refine wpAnyH_take (i := 9) (v := ?v68) (ops_at rfl) (by kernel_rfl) (by kernel_rfl) (by kernel_rfl) (fun _ _ _ h => h) (Or.inl ⟨by rfl, ?hy68⟩) (by assumption) ?rest68
      case hy68 => intro w' hSw; (try dsimp only at hSw); go_simp; try with_reducible rfl
      try simp only [Act.put, List.setIfInBounds_toArray, List.set_cons_zero, List.set_cons_succ]
      refine wpAnyH_take (i := 11) (v := ?v69) (ops_at rfl) (by kernel_rfl) (by kernel_rfl) (by kernel_rfl) (fun _ _ _ h => h) (Or.inl ⟨by rfl, ?hy69⟩) (by assumption) ?rest69
      case hy69 => intro w' hSw; (try dsimp only at hSw); go_simp; try with_reducible rfl
      try simp only [Act.put, List.setIfInBounds_toArray, List.set_cons_zero, List.set_cons_succ]
      refine wpAnyH_take (i := 12) (v := ?v70) (ops_at rfl) (by kernel_rfl) (by kernel_rfl) (by kernel_rfl) (fun _ _ _ h => h) (Or.inl ⟨by rfl, ?hy70⟩) (by assumption) ?rest70
      case hy70 => intro w' hSw; (try dsimp only at hSw); go_simp; try with_reducible rfl
      try simp only [Act.put, List.setIfInBounds_toArray, List.set_cons_zero, List.set_cons_succ]
      refine wpAnyH_ready (rs := [10]) (by kernel_rfl) (by simp) ?_
      refine AllReadyH.cons (ops_at rfl) (fun K hK => ?_) AllReadyH.nil
      go_simp
      refine (hnSent S9.drew 3 rfl).mono ?_
      rintro e wz ⟨rfl, rfl⟩
      rw [HK9.out]
      refine hK.out _ _ (by exact HC9.out _ S9.drew) (fun hHeld => ?_)
      clear hK K
      try simp only [Act.put, List.setIfInBounds_toArray, List.set_cons_zero, List.set_cons_succ]
      refine wpAnyH_take (i := 13) (v := ?v72) (ops_at rfl) (by kernel_rfl) (by kernel_rfl) (by kernel_rfl) (fun _ _ _ h => h) (Or.inl ⟨by rfl, ?hy72⟩) (by assumption) ?rest72
      case hy72 => intro w' hSw; (try dsimp only at hSw); go_simp; try with_reducible rfl
      try simp only [Act.put, List.setIfInBounds_toArray, List.set_cons_zero, List.set_cons_succ]
      refine wpAnyH_take (i := 14) (v := ?v73) (ops_at rfl) (by kernel_rfl) (by kernel_rfl) (by kernel_rfl) (fun _ _ _ h => h) (Or.inl ⟨by rfl, ?hy73⟩) (by assumption) ?rest73
      case hy73 => intro w' hSw; (try dsimp only at hSw); go_simp; try with_reducible rfl
      try simp only [Act.put, List.setIfInBounds_toArray, List.set_cons_zero, List.set_cons_succ]
      refine wpAnyH_take (i := 15) (v := ?v74) (ops_at rfl) (by kernel_rfl) (by kernel_rfl) (by kernel_rfl) (fun _ _ _ h => h) (Or.inl ⟨by rfl, ?hy74⟩) (by assumption) ?rest74
      case hy74 => intro w' hSw; (try dsimp only at hSw); go_simp; try with_reducible rfl
      try simp only [Act.put, List.setIfInBounds_toArray, List.set_cons_zero, List.set_cons_succ]
      refine wpAnyH_ready (rs := [16]) (by kernel_rfl) (by simp) ?_
      refine AllReadyH.cons (ops_at rfl) (fun K hK => ?_) AllReadyH.nil
      go_simp
      refine (hnList S9.drew 3 rfl P9 HP9.out).mono ?_
      rintro e wa9 ⟨a91, c91, rfl, T1⟩
      refine hK.out _ _ (by exact HC9.out _ (T1.take 4)) (fun hHeld => ?_)
      clear hK K
      try simp only [Act.put, List.setIfInBounds_toArray, List.set_cons_zero, List.set_cons_succ]
      refine wpAnyH_ready (rs := [17]) (by kernel_rfl) (by simp) ?_
      refine AllReadyH.cons (ops_at rfl) (fun K hK => ?_) AllReadyH.nil
      go_simp
      refine (rnList_any T1 (by have := HN9.out; omega)).mono ?_
      rintro e wb9 ⟨a92, c92, rfl, T2⟩
      rw [HP9.out] at T2 ⊢
      have T3 : St w wb9 (rnL (w3.heap.size + 1) aL9 cL9 aB9 cB9 s9 [netT w3.heap.size s9]) := T2.tail.take 4
      refine hK.out _ _ (by exact HC9.out _ T3) (fun hHeld => ?_)
      clear hK K
      try simp only [Act.put, List.setIfInBounds_toArray, List.set_cons_zero, List.set_cons_succ]
      refine wpAnyH_ready (rs := [18]) (by kernel_rfl) (by simp) ?_
      refine AllReadyH.cons (ops_at rfl) (fun K hK => ?_) AllReadyH.nil
      go_simp
      refine (msame_any a91 a92 (nList s9) P9 c91 c92 _ HP9.out (by omega) (by exact (T2.slG eMok 5 rfl).2.2.2.2) (by exact (T2.slG eMok 0 rfl).2.2.2.2)).mono ?_
      rintro e wc9 ⟨rfl, hb9⟩
      have T4 := T3.grow hb9
      refine hK.out _ _ (by exact HC9.out _ T4) (fun hHeld => ?_)
      clear hK K
      try simp only [Act.put, List.setIfInBounds_toArray, List.set_cons_zero, List.set_cons_succ]
      refine wpAnyH_take (i := 19) (v := ?v78) (ops_at rfl) (by kernel_rfl) (by kernel_rfl) (by kernel_rfl) (fun _ _ _ h => h) (Or.inl ⟨by rfl, ?hy78⟩) (by assumption) ?rest78
      case hy78 => intro w' hSw; (try dsimp only at hSw); go_simp; try with_reducible rfl
      try simp only [Act.put, List.setIfInBounds_toArray, List.set_cons_zero, List.set_cons_succ]
      refine wpAnyH_take (i := 20) (v := ?v79) (ops_at rfl) (by kernel_rfl) (by kernel_rfl) (by kernel_rfl) (fun _ _ _ h => h) (Or.inl ⟨by rfl, ?hy79⟩) (by assumption) ?rest79
      case hy79 => intro w' hSw; (try dsimp only at hSw); go_simp; try with_reducible rfl
      try simp only [Act.put, List.setIfInBounds_toArray, List.set_cons_zero, List.set_cons_succ]
      refine wpAnyH_done (by kernel_rfl) ?_ _
      go_wp2
      go_roundw
      case rel => exact ⟨k + 1, s9, aL9, cL9, aB9, cB9, by omega, by go_num, HS9.out, T4⟩
      case measure => simp [intOf]; omega
    have g3 : (x.kind == 2) = false := by simpa using hk2
    clear hk2
    by_cases hk3 : x.kind = 3
    · have g4 : (x.kind == 3) = true := by simpa using hk3
      clear hk3
      obtain ⟨q, hq⟩ : ∃ q, nTwice s x.i = q := ⟨_, rfl⟩
      have HS9 : Hid (q.2.sent ≤ k + 1) := by rw [Hid, ← hq]; unfold nTwice; split <;> simp <;> omega
      have HQ := hid hq
      have g9 : (q.1 == q.1) = true := by simp
      clear hq
      go_wp2_with fail
      refine wp_region_held_drew (S := (fun w' => (w'.cell? ⟨wr.heap.size, 0, none⟩ = some (.int .i64 x.kind) ∧ w'.cell? ⟨wr.heap.size, 1, none⟩ = some (.int .i64 x.i) ∧ w'.cell? ⟨wr.heap.size, 2, none⟩ = some (.int .i64 x.bit) ∧ w'.cell? ⟨wr.heap.size, 3, none⟩ = some (.int .i64 x.m.node) ∧ w'.cell? ⟨wr.heap.size, 4, none⟩ = some (.int .i64 x.m.kind) ∧ w'.cell? ⟨wr.heap.size, 5, none⟩ = some (.int .i64 x.m.term) ∧ w'.cell? ⟨wr.heap.size, 6, none⟩ = some (.int .i64 x.m.gen) ∧ w'.cell? ⟨wr.heap.size, 7, none⟩ = some (.int .i64 x.m.job) ∧ w'.cell? ⟨wr.heap.size, 8, none⟩ = some (.int .i64 x.m.inc) ∧ w'.cell? ⟨wr.heap.size, 9, none⟩ = some (.int .i64 x.m.version) ∧ w'.cell? ⟨wr.heap.size, 10, none⟩ = some (.int .i64 x.m.epoch) ∧ w'.cell? ⟨wr.heap.size, 11, none⟩ = some (.int .i64 x.m.until_) ∧ w'.cell? ⟨wr.heap.size, 12, none⟩ = some (.int .i64 x.m.mode) ∧ w'.cell? ⟨wr.heap.size, 13, none⟩ = some (.int .i64 x.m.work)))) (by kernel_rfl) (by exact S5.drew.act 4 rfl) (fun hHeld => ?_)
      change wpAnyH _ _ _ _ _ 8 (Array.replicate 8 false) _ _
      refine wpAnyH_take (i := 0) (v := ?v80) (ops_at rfl) (by kernel_rfl) (by kernel_rfl) (by kernel_rfl) (fun _ _ _ h => h) (Or.inl ⟨by rfl, ?hy80⟩) (by assumption) ?rest80
      case hy80 => intro w' hSw; (try dsimp only at hSw); go_simp; try with_reducible rfl
      try simp only [Act.put, List.setIfInBounds_toArray, List.set_cons_zero, List.set_cons_succ]
      refine wpAnyH_take (i := 1) (v := ?v81) (ops_at rfl) (by kernel_rfl) (by kernel_rfl) (by kernel_rfl) (fun _ _ _ h => h) (Or.inl ⟨by rfl, ?hy81⟩) (by assumption) ?rest81
      case hy81 => intro w' hSw; (try dsimp only at hSw); go_simp; try with_reducible rfl
      try simp only [Act.put, List.setIfInBounds_toArray, List.set_cons_zero, List.set_cons_succ]
      refine wpAnyH_take (i := 3) (v := ?v82) (ops_at rfl) (by kernel_rfl) (by kernel_rfl) (by kernel_rfl) (fun _ _ _ h => h) (Or.inl ⟨by rfl, ?hy82⟩) (by assumption) ?rest82
      case hy82 => intro w' hSw; (try dsimp only at hSw); go_simp; try with_reducible rfl
      try simp only [Act.put, List.setIfInBounds_toArray, List.set_cons_zero, List.set_cons_succ]
      refine wpAnyH_take (i := 4) (v := ?v83) (ops_at rfl) (by kernel_rfl) (by kernel_rfl) (by kernel_rfl) (fun _ _ _ h => h) (Or.inl ⟨by rfl, ?hy83⟩) (by assumption) ?rest83
      case hy83 => intro w' hSw; (try dsimp only at hSw); go_simp; try with_reducible rfl
      try simp only [Act.put, List.setIfInBounds_toArray, List.set_cons_zero, List.set_cons_succ]
      refine wpAnyH_ready (rs := [2]) (by kernel_rfl) (by simp) ?_
      refine AllReadyH.cons (ops_at rfl) (fun K hK => ?_) AllReadyH.nil
      go_simp
      refine (hnTwice S5.drew 3 rfl x.i).mono ?_
      rintro e w6 ⟨rfl, S6⟩
      rw [HQ.out] at S6 ⊢
      have S6' : St w w6 (rnL (w3.heap.size + 1) aL cL aB cB s [netT w3.heap.size q.2, cellsT wr.heap.size 52 x.cs]) := S6
      refine hK.out _ _ (by exact S6'.act 4 rfl) (fun hHeld => ?_)
      clear hK K
      try simp only [Act.put, List.setIfInBounds_toArray, List.set_cons_zero, List.set_cons_succ]
      refine wpAnyH_ready (rs := [5]) (by kernel_rfl) (by simp) ?_
      refine AllReadyH.cons (ops_at rfl) (fun K hK => ?_) AllReadyH.nil
      go_simp
      refine (rnTwice_any S6' x.i).mono ?_
      rintro e w7 ⟨aL9, cL9, aB9, cB9, rfl, S7⟩
      rw [HQ.out] at S7 ⊢
      have S7' : St w w7 (rnL (w3.heap.size + 1) aL9 cL9 aB9 cB9 q.2 [netT w3.heap.size q.2, cellsT wr.heap.size 52 x.cs]) := S7
      refine hK.out _ _ (by exact S7'.act 4 rfl) (fun hHeld => ?_)
      clear hK K
      try simp only [Act.put, List.setIfInBounds_toArray, List.set_cons_zero, List.set_cons_succ]
      refine wpAnyH_take (i := 6) (v := ?v86) (ops_at rfl) (by kernel_rfl) (by kernel_rfl) (by kernel_rfl) (fun _ _ _ h => h) (Or.inl ⟨by rfl, ?hy86⟩) (by assumption) ?rest86
      case hy86 => intro w' hSw; (try dsimp only at hSw); go_simp; try with_reducible rfl
      try simp only [Act.put, List.setIfInBounds_toArray, List.set_cons_zero, List.set_cons_succ]
      refine wpAnyH_take (i := 7) (v := ?v87) (ops_at rfl) (by kernel_rfl) (by kernel_rfl) (by kernel_rfl) (fun _ _ _ h => h) (Or.inl ⟨by rfl, ?hy87⟩) (by assumption) ?rest87
      case hy87 => intro w' hSw; (try dsimp only at hSw); go_simp; try with_reducible rfl
      try simp only [Act.put, List.setIfInBounds_toArray, List.set_cons_zero, List.set_cons_succ]
      refine wpAnyH_done (by kernel_rfl) ?_ _
      obtain ⟨qb, s9⟩ := q
      have S9 : St w w7 (rnL (w3.heap.size + 1) aL9 cL9 aB9 cB9 s9 [netT w3.heap.size s9]) := S7'.take 4
      clear S5 S6 S6' S7 S7' HQ y0 y1 y2 y3 y4 y5 y6 y7 y8 y9 y10 y11 y12 y13 hHeld
      have hS9 : s9.sent ≤ k + 1 := HS9.out
      have l9 := (S9.netOk 3 rfl).1
      have c9 := S9.cell 0 rfl 0 rfl
      have e9 := S9.cell 0 rfl 2 rfl
      obtain ⟨N9, hN9⟩ : ∃ N9, s9.l.length = N9 := ⟨_, rfl⟩
      obtain ⟨K9, hK9⟩ : ∃ K9, s9.sent = K9 := ⟨_, rfl⟩
      rw [hN9] at l9 c9
      rw [hK9] at e9 hS9
      have HN9 := hid hN9
      have HK9 := hid hK9
      have HC9 : Hid (∀ w', St w w' (rnL (w3.heap.size + 1) aL9 cL9 aB9 cB9 s9 [netT w3.heap.size s9]) → w'.cell? ⟨w3.heap.size + 1, 0, none⟩ = some (.slice aL9 N9 cL9) ∧ w'.cell? ⟨w3.heap.size + 1, 2, none⟩ = some (.int .i64 (K9 : Int))) := by
        intro w' S'
        rw [← hN9, ← hK9]
        exact ⟨S'.cell 0 rfl 0 rfl, S'.cell 0 rfl 2 rfl⟩
      clear hN9 hK9
      have k1 : ((N9 : Int) != (N9 : Int)) = false := by simp
      have k2 : ((K9 : Int) != (K9 : Int)) = false := by simp
      obtain ⟨P9, hP9⟩ : ∃ P9, (nList s9).length = P9 := ⟨_, rfl⟩
      have hP40 : P9 ≤ 40 := by
        have := List.length_filterMap_le NM.shown s9.l
        rw [← hP9]; unfold nList; have := HN9.out; omega
      have HP9 := hid hP9
      clear hP9
      go_wp2_with fail
      refine wp_region_held_drew (S := (fun w' => w'.cell? ⟨w3.heap.size + 1, 0, none⟩ = some (.slice aL9 N9 cL9) ∧ w'.cell? ⟨w3.heap.size + 1, 2, none⟩ = some (.int .i64 (K9 : Int)))) (by kernel_rfl) (by exact HC9.out _ S9.drew) (fun hHeld => ?_)
      change wpAnyH _ _ _ _ _ 21 (Array.replicate 21 false) _ _
      refine wpAnyH_take (i := 0) (v := ?v88) (ops_at rfl) (by kernel_rfl) (by kernel_rfl) (by kernel_rfl) (fun _ _ _ h => h) (Or.inl ⟨by rfl, ?hy88⟩) (by assumption) ?rest88
      case hy88 => intro w' hSw; (try dsimp only at hSw); go_simp; try with_reducible rfl
      try simp only [Act.put, List.setIfInBounds_toArray, List.set_cons_zero, List.set_cons_succ]
      refine wpAnyH_take (i := 1) (v := ?v89) (ops_at rfl) (by kernel_rfl) (by kernel_rfl) (by kernel_rfl) (fun _ _ _ h => h) (Or.inl ⟨by rfl, ?hy89⟩) (by assumption) ?rest89
      case hy89 => intro w' hSw; (try dsimp only at hSw); go_simp; try with_reducible rfl
      try simp only [Act.put, List.setIfInBounds_toArray, List.set_cons_zero, List.set_cons_succ]
      refine wpAnyH_take (i := 2) (v := ?v90) (ops_at rfl) (by kernel_rfl) (by kernel_rfl) (by kernel_rfl) (fun _ _ _ h => h) (Or.inl ⟨by rfl, ?hy90⟩) (by assumption) ?rest90
      case hy90 => intro w' hSw; (try dsimp only at hSw); go_simp; try with_reducible rfl
      try simp only [Act.put, List.setIfInBounds_toArray, List.set_cons_zero, List.set_cons_succ]
      refine wpAnyH_take (i := 4) (v := ?v91) (ops_at rfl) (by kernel_rfl) (by kernel_rfl) (by kernel_rfl) (fun _ _ _ h => h) (Or.inl ⟨by rfl, ?hy91⟩) (by assumption) ?rest91
      case hy91 => intro w' hSw; (try dsimp only at hSw); go_simp; try with_reducible rfl
      try simp only [Act.put, List.setIfInBounds_toArray, List.set_cons_zero, List.set_cons_succ]
      refine wpAnyH_take (i := 5) (v := ?v92) (ops_at rfl) (by kernel_rfl) (by kernel_rfl) (by kernel_rfl) (fun _ _ _ h => h) (Or.inl ⟨by rfl, ?hy92⟩) (by assumption) ?rest92
      case hy92 => intro w' hSw; (try dsimp only at hSw); go_simp; try with_reducible rfl
      try simp only [Act.put, List.setIfInBounds_toArray, List.set_cons_zero, List.set_cons_succ]
      refine wpAnyH_take (i := 6) (v := ?v93) (ops_at rfl) (by kernel_rfl) (by kernel_rfl) (by kernel_rfl) (fun _ _ _ h => h) (Or.inl ⟨by rfl, ?hy93⟩) (by assumption) ?rest93
      case hy93 => intro w' hSw; (try dsimp only at hSw); go_simp; try with_reducible rfl
      try simp only [Act.put, List.setIfInBounds_toArray, List.set_cons_zero, List.set_cons_succ]
      refine wpAnyH_ready (rs := [3]) (by kernel_rfl) (by simp) ?_
      refine AllReadyH.cons (ops_at rfl) (fun K hK => ?_) AllReadyH.nil
      go_simp
      refine (hnLen S9.drew 3 rfl).mono ?_
      rintro e wz ⟨rfl, rfl⟩
      rw [HN9.out]
      refine hK.out _ _ (by exact HC9.out _ S9.drew) (fun hHeld => ?_)
      clear hK K
      try simp only [Act.put, List.setIfInBounds_toArray, List.set_cons_zero, List.set_cons_succ]
      refine wpAnyH_take (i := 7) (v := ?v95) (ops_at rfl) (by kernel_rfl) (by kernel_rfl) (by kernel_rfl) (fun _ _ _ h => h) (Or.inl ⟨by rfl, ?hy95⟩) (by assumption) ?rest95
      case hy95 => intro w' hSw; (try dsimp only at hSw); go_simp; try with_reducible rfl
      try simp only [Act.put, List.setIfInBounds_toArray, List.set_cons_zero, List.set_cons_succ]
      refine wpAnyH_take (i := 8) (v := ?v96) (ops_at rfl) (by kernel_rfl) (by kernel_rfl) (by kernel_rfl) (fun _ _ _ h => h) (Or.inl ⟨by rfl, ?hy96⟩) (by assumption) ?rest96
      case hy96 => intro w' hSw; (try dsimp only at hSw); go_simp; try with_reducible rfl
      try simp only [Act.put, List.setIfInBounds_toArray, List.set_cons_zero, List.set_cons_succ]
      refine wpAnyH_take (i := 9) (v := ?v97) (ops_at rfl) (by kernel_rfl) (by kernel_rfl) (by kernel_rfl) (fun _ _ _ h => h) (Or.inl ⟨by rfl, ?hy97⟩) (by assumption) ?rest97
      case hy97 => intro w' hSw; (try dsimp only at hSw); go_simp; try with_reducible rfl
      try simp only [Act.put, List.setIfInBounds_toArray, List.set_cons_zero, List.set_cons_succ]
      refine wpAnyH_take (i := 11) (v := ?v98) (ops_at rfl) (by kernel_rfl) (by kernel_rfl) (by kernel_rfl) (fun _ _ _ h => h) (Or.inl ⟨by rfl, ?hy98⟩) (by assumption) ?rest98
      case hy98 => intro w' hSw; (try dsimp only at hSw); go_simp; try with_reducible rfl
      try simp only [Act.put, List.setIfInBounds_toArray, List.set_cons_zero, List.set_cons_succ]
      refine wpAnyH_take (i := 12) (v := ?v99) (ops_at rfl) (by kernel_rfl) (by kernel_rfl) (by kernel_rfl) (fun _ _ _ h => h) (Or.inl ⟨by rfl, ?hy99⟩) (by assumption) ?rest99
      case hy99 => intro w' hSw; (try dsimp only at hSw); go_simp; try with_reducible rfl
      try simp only [Act.put, List.setIfInBounds_toArray, List.set_cons_zero, List.set_cons_succ]
      refine wpAnyH_ready (rs := [10]) (by kernel_rfl) (by simp) ?_
      refine AllReadyH.cons (ops_at rfl) (fun K hK => ?_) AllReadyH.nil
      go_simp
      refine (hnSent S9.drew 3 rfl).mono ?_
      rintro e wz ⟨rfl, rfl⟩
      rw [HK9.out]
      refine hK.out _ _ (by exact HC9.out _ S9.drew) (fun hHeld => ?_)
      clear hK K
      try simp only [Act.put, List.setIfInBounds_toArray, List.set_cons_zero, List.set_cons_succ]
      refine wpAnyH_take (i := 13) (v := ?v101) (ops_at rfl) (by kernel_rfl) (by kernel_rfl) (by kernel_rfl) (fun _ _ _ h => h) (Or.inl ⟨by rfl, ?hy101⟩) (by assumption) ?rest101
      case hy101 => intro w' hSw; (try dsimp only at hSw); go_simp; try with_reducible rfl
      try simp only [Act.put, List.setIfInBounds_toArray, List.set_cons_zero, List.set_cons_succ]
      refine wpAnyH_take (i := 14) (v := ?v102) (ops_at rfl) (by kernel_rfl) (by kernel_rfl) (by kernel_rfl) (fun _ _ _ h => h) (Or.inl ⟨by rfl, ?hy102⟩) (by assumption) ?rest102
      case hy102 => intro w' hSw; (try dsimp only at hSw); go_simp; try with_reducible rfl
      try simp only [Act.put, List.setIfInBounds_toArray, List.set_cons_zero, List.set_cons_succ]
      refine wpAnyH_take (i := 15) (v := ?v103) (ops_at rfl) (by kernel_rfl) (by kernel_rfl) (by kernel_rfl) (fun _ _ _ h => h) (Or.inl ⟨by rfl, ?hy103⟩) (by assumption) ?rest103
      case hy103 => intro w' hSw; (try dsimp only at hSw); go_simp; try with_reducible rfl
      try simp only [Act.put, List.setIfInBounds_toArray, List.set_cons_zero, List.set_cons_succ]
      refine wpAnyH_ready (rs := [16]) (by kernel_rfl) (by simp) ?_
      refine AllReadyH.cons (ops_at rfl) (fun K hK => ?_) AllReadyH.nil
      go_simp
      refine (hnList S9.drew 3 rfl P9 HP9.out).mono ?_
      rintro e wa9 ⟨a91, c91, rfl, T1⟩
      refine hK.out _ _ (by exact HC9.out _ (T1.take 4)) (fun hHeld => ?_)
      clear hK K
      try simp only [Act.put, List.setIfInBounds_toArray, List.set_cons_zero, List.set_cons_succ]
      refine wpAnyH_ready (rs := [17]) (by kernel_rfl) (by simp) ?_
      refine AllReadyH.cons (ops_at rfl) (fun K hK => ?_) AllReadyH.nil
      go_simp
      refine (rnList_any T1 (by have := HN9.out; omega)).mono ?_
      rintro e wb9 ⟨a92, c92, rfl, T2⟩
      rw [HP9.out] at T2 ⊢
      have T3 : St w wb9 (rnL (w3.heap.size + 1) aL9 cL9 aB9 cB9 s9 [netT w3.heap.size s9]) := T2.tail.take 4
      refine hK.out _ _ (by exact HC9.out _ T3) (fun hHeld => ?_)
      clear hK K
      try simp only [Act.put, List.setIfInBounds_toArray, List.set_cons_zero, List.set_cons_succ]
      refine wpAnyH_ready (rs := [18]) (by kernel_rfl) (by simp) ?_
      refine AllReadyH.cons (ops_at rfl) (fun K hK => ?_) AllReadyH.nil
      go_simp
      refine (msame_any a91 a92 (nList s9) P9 c91 c92 _ HP9.out (by omega) (by exact (T2.slG eMok 5 rfl).2.2.2.2) (by exact (T2.slG eMok 0 rfl).2.2.2.2)).mono ?_
      rintro e wc9 ⟨rfl, hb9⟩
      have T4 := T3.grow hb9
      refine hK.out _ _ (by exact HC9.out _ T4) (fun hHeld => ?_)
      clear hK K
      try simp only [Act.put, List.setIfInBounds_toArray, List.set_cons_zero, List.set_cons_succ]
      refine wpAnyH_take (i := 19) (v := ?v107) (ops_at rfl) (by kernel_rfl) (by kernel_rfl) (by kernel_rfl) (fun _ _ _ h => h) (Or.inl ⟨by rfl, ?hy107⟩) (by assumption) ?rest107
      case hy107 => intro w' hSw; (try dsimp only at hSw); go_simp; try with_reducible rfl
      try simp only [Act.put, List.setIfInBounds_toArray, List.set_cons_zero, List.set_cons_succ]
      refine wpAnyH_take (i := 20) (v := ?v108) (ops_at rfl) (by kernel_rfl) (by kernel_rfl) (by kernel_rfl) (fun _ _ _ h => h) (Or.inl ⟨by rfl, ?hy108⟩) (by assumption) ?rest108
      case hy108 => intro w' hSw; (try dsimp only at hSw); go_simp; try with_reducible rfl
      try simp only [Act.put, List.setIfInBounds_toArray, List.set_cons_zero, List.set_cons_succ]
      refine wpAnyH_done (by kernel_rfl) ?_ _
      go_wp2
      go_roundw
      case rel => exact ⟨k + 1, s9, aL9, cL9, aB9, cB9, by omega, by go_num, HS9.out, T4⟩
      case measure => simp [intOf]; omega
    have g4 : (x.kind == 3) = false := by simpa using hk3
    clear hk3
    by_cases hk4 : x.kind = 4
    · have g5 : (x.kind == 4) = true := by simpa using hk4
      clear hk4
      obtain ⟨q, hq⟩ : ∃ q, nFlip s x.i x.bit = q := ⟨_, rfl⟩
      have HS9 : Hid (q.2.sent ≤ k + 1) := by rw [Hid, ← hq]; unfold nFlip; split <;> simp <;> omega
      have HQ := hid hq
      have g9 : (q.1 == q.1) = true := by simp
      clear hq
      go_wp2_with fail
      refine wp_region_held_drew (S := (fun w' => (w'.cell? ⟨wr.heap.size, 0, none⟩ = some (.int .i64 x.kind) ∧ w'.cell? ⟨wr.heap.size, 1, none⟩ = some (.int .i64 x.i) ∧ w'.cell? ⟨wr.heap.size, 2, none⟩ = some (.int .i64 x.bit) ∧ w'.cell? ⟨wr.heap.size, 3, none⟩ = some (.int .i64 x.m.node) ∧ w'.cell? ⟨wr.heap.size, 4, none⟩ = some (.int .i64 x.m.kind) ∧ w'.cell? ⟨wr.heap.size, 5, none⟩ = some (.int .i64 x.m.term) ∧ w'.cell? ⟨wr.heap.size, 6, none⟩ = some (.int .i64 x.m.gen) ∧ w'.cell? ⟨wr.heap.size, 7, none⟩ = some (.int .i64 x.m.job) ∧ w'.cell? ⟨wr.heap.size, 8, none⟩ = some (.int .i64 x.m.inc) ∧ w'.cell? ⟨wr.heap.size, 9, none⟩ = some (.int .i64 x.m.version) ∧ w'.cell? ⟨wr.heap.size, 10, none⟩ = some (.int .i64 x.m.epoch) ∧ w'.cell? ⟨wr.heap.size, 11, none⟩ = some (.int .i64 x.m.until_) ∧ w'.cell? ⟨wr.heap.size, 12, none⟩ = some (.int .i64 x.m.mode) ∧ w'.cell? ⟨wr.heap.size, 13, none⟩ = some (.int .i64 x.m.work)))) (by kernel_rfl) (by exact S5.drew.act 4 rfl) (fun hHeld => ?_)
      change wpAnyH _ _ _ _ _ 12 (Array.replicate 12 false) _ _
      refine wpAnyH_take (i := 0) (v := ?v109) (ops_at rfl) (by kernel_rfl) (by kernel_rfl) (by kernel_rfl) (fun _ _ _ h => h) (Or.inl ⟨by rfl, ?hy109⟩) (by assumption) ?rest109
      case hy109 => intro w' hSw; (try dsimp only at hSw); go_simp; try with_reducible rfl
      try simp only [Act.put, List.setIfInBounds_toArray, List.set_cons_zero, List.set_cons_succ]
      refine wpAnyH_take (i := 1) (v := ?v110) (ops_at rfl) (by kernel_rfl) (by kernel_rfl) (by kernel_rfl) (fun _ _ _ h => h) (Or.inl ⟨by rfl, ?hy110⟩) (by assumption) ?rest110
      case hy110 => intro w' hSw; (try dsimp only at hSw); go_simp; try with_reducible rfl
      try simp only [Act.put, List.setIfInBounds_toArray, List.set_cons_zero, List.set_cons_succ]
      refine wpAnyH_take (i := 2) (v := ?v111) (ops_at rfl) (by kernel_rfl) (by kernel_rfl) (by kernel_rfl) (fun _ _ _ h => h) (Or.inl ⟨by rfl, ?hy111⟩) (by assumption) ?rest111
      case hy111 => intro w' hSw; (try dsimp only at hSw); go_simp; try with_reducible rfl
      try simp only [Act.put, List.setIfInBounds_toArray, List.set_cons_zero, List.set_cons_succ]
      refine wpAnyH_take (i := 3) (v := ?v112) (ops_at rfl) (by kernel_rfl) (by kernel_rfl) (by kernel_rfl) (fun _ _ _ h => h) (Or.inl ⟨by rfl, ?hy112⟩) (by assumption) ?rest112
      case hy112 => intro w' hSw; (try dsimp only at hSw); go_simp; try with_reducible rfl
      try simp only [Act.put, List.setIfInBounds_toArray, List.set_cons_zero, List.set_cons_succ]
      refine wpAnyH_take (i := 5) (v := ?v113) (ops_at rfl) (by kernel_rfl) (by kernel_rfl) (by kernel_rfl) (fun _ _ _ h => h) (Or.inl ⟨by rfl, ?hy113⟩) (by assumption) ?rest113
      case hy113 => intro w' hSw; (try dsimp only at hSw); go_simp; try with_reducible rfl
      try simp only [Act.put, List.setIfInBounds_toArray, List.set_cons_zero, List.set_cons_succ]
      refine wpAnyH_take (i := 6) (v := ?v114) (ops_at rfl) (by kernel_rfl) (by kernel_rfl) (by kernel_rfl) (fun _ _ _ h => h) (Or.inl ⟨by rfl, ?hy114⟩) (by assumption) ?rest114
      case hy114 => intro w' hSw; (try dsimp only at hSw); go_simp; try with_reducible rfl
      try simp only [Act.put, List.setIfInBounds_toArray, List.set_cons_zero, List.set_cons_succ]
      refine wpAnyH_take (i := 7) (v := ?v115) (ops_at rfl) (by kernel_rfl) (by kernel_rfl) (by kernel_rfl) (fun _ _ _ h => h) (Or.inl ⟨by rfl, ?hy115⟩) (by assumption) ?rest115
      case hy115 => intro w' hSw; (try dsimp only at hSw); go_simp; try with_reducible rfl
      try simp only [Act.put, List.setIfInBounds_toArray, List.set_cons_zero, List.set_cons_succ]
      refine wpAnyH_take (i := 8) (v := ?v116) (ops_at rfl) (by kernel_rfl) (by kernel_rfl) (by kernel_rfl) (fun _ _ _ h => h) (Or.inl ⟨by rfl, ?hy116⟩) (by assumption) ?rest116
      case hy116 => intro w' hSw; (try dsimp only at hSw); go_simp; try with_reducible rfl
      try simp only [Act.put, List.setIfInBounds_toArray, List.set_cons_zero, List.set_cons_succ]
      refine wpAnyH_ready (rs := [4]) (by kernel_rfl) (by simp) ?_
      refine AllReadyH.cons (ops_at rfl) (fun K hK => ?_) AllReadyH.nil
      go_simp
      refine (hnFlip S5.drew 3 rfl x.i x.bit hbit).mono ?_
      rintro e w6 ⟨rfl, S6⟩
      rw [HQ.out] at S6 ⊢
      have S6' : St w w6 (rnL (w3.heap.size + 1) aL cL aB cB s [netT w3.heap.size q.2, cellsT wr.heap.size 52 x.cs]) := S6
      refine hK.out _ _ (by exact S6'.act 4 rfl) (fun hHeld => ?_)
      clear hK K
      try simp only [Act.put, List.setIfInBounds_toArray, List.set_cons_zero, List.set_cons_succ]
      refine wpAnyH_ready (rs := [9]) (by kernel_rfl) (by simp) ?_
      refine AllReadyH.cons (ops_at rfl) (fun K hK => ?_) AllReadyH.nil
      go_simp
      refine (rnFlip_any S6' HOk40.out x.i x.bit hbit).mono ?_
      rintro e w7 ⟨aL9, cL9, aB9, cB9, rfl, S7⟩
      rw [HQ.out] at S7 ⊢
      have S7' : St w w7 (rnL (w3.heap.size + 1) aL9 cL9 aB9 cB9 q.2 [netT w3.heap.size q.2, cellsT wr.heap.size 52 x.cs]) := S7
      refine hK.out _ _ (by exact S7'.act 4 rfl) (fun hHeld => ?_)
      clear hK K
      try simp only [Act.put, List.setIfInBounds_toArray, List.set_cons_zero, List.set_cons_succ]
      refine wpAnyH_take (i := 10) (v := ?v119) (ops_at rfl) (by kernel_rfl) (by kernel_rfl) (by kernel_rfl) (fun _ _ _ h => h) (Or.inl ⟨by rfl, ?hy119⟩) (by assumption) ?rest119
      case hy119 => intro w' hSw; (try dsimp only at hSw); go_simp; try with_reducible rfl
      try simp only [Act.put, List.setIfInBounds_toArray, List.set_cons_zero, List.set_cons_succ]
      refine wpAnyH_take (i := 11) (v := ?v120) (ops_at rfl) (by kernel_rfl) (by kernel_rfl) (by kernel_rfl) (fun _ _ _ h => h) (Or.inl ⟨by rfl, ?hy120⟩) (by assumption) ?rest120
      case hy120 => intro w' hSw; (try dsimp only at hSw); go_simp; try with_reducible rfl
      try simp only [Act.put, List.setIfInBounds_toArray, List.set_cons_zero, List.set_cons_succ]
      refine wpAnyH_done (by kernel_rfl) ?_ _
      obtain ⟨qb, s9⟩ := q
      have S9 : St w w7 (rnL (w3.heap.size + 1) aL9 cL9 aB9 cB9 s9 [netT w3.heap.size s9]) := S7'.take 4
      clear S5 S6 S6' S7 S7' HQ y0 y1 y2 y3 y4 y5 y6 y7 y8 y9 y10 y11 y12 y13 hHeld
      have hS9 : s9.sent ≤ k + 1 := HS9.out
      have l9 := (S9.netOk 3 rfl).1
      have c9 := S9.cell 0 rfl 0 rfl
      have e9 := S9.cell 0 rfl 2 rfl
      obtain ⟨N9, hN9⟩ : ∃ N9, s9.l.length = N9 := ⟨_, rfl⟩
      obtain ⟨K9, hK9⟩ : ∃ K9, s9.sent = K9 := ⟨_, rfl⟩
      rw [hN9] at l9 c9
      rw [hK9] at e9 hS9
      have HN9 := hid hN9
      have HK9 := hid hK9
      have HC9 : Hid (∀ w', St w w' (rnL (w3.heap.size + 1) aL9 cL9 aB9 cB9 s9 [netT w3.heap.size s9]) → w'.cell? ⟨w3.heap.size + 1, 0, none⟩ = some (.slice aL9 N9 cL9) ∧ w'.cell? ⟨w3.heap.size + 1, 2, none⟩ = some (.int .i64 (K9 : Int))) := by
        intro w' S'
        rw [← hN9, ← hK9]
        exact ⟨S'.cell 0 rfl 0 rfl, S'.cell 0 rfl 2 rfl⟩
      clear hN9 hK9
      have k1 : ((N9 : Int) != (N9 : Int)) = false := by simp
      have k2 : ((K9 : Int) != (K9 : Int)) = false := by simp
      obtain ⟨P9, hP9⟩ : ∃ P9, (nList s9).length = P9 := ⟨_, rfl⟩
      have hP40 : P9 ≤ 40 := by
        have := List.length_filterMap_le NM.shown s9.l
        rw [← hP9]; unfold nList; have := HN9.out; omega
      have HP9 := hid hP9
      clear hP9
      go_wp2_with fail
      refine wp_region_held_drew (S := (fun w' => w'.cell? ⟨w3.heap.size + 1, 0, none⟩ = some (.slice aL9 N9 cL9) ∧ w'.cell? ⟨w3.heap.size + 1, 2, none⟩ = some (.int .i64 (K9 : Int)))) (by kernel_rfl) (by exact HC9.out _ S9.drew) (fun hHeld => ?_)
      change wpAnyH _ _ _ _ _ 21 (Array.replicate 21 false) _ _
      refine wpAnyH_take (i := 0) (v := ?v121) (ops_at rfl) (by kernel_rfl) (by kernel_rfl) (by kernel_rfl) (fun _ _ _ h => h) (Or.inl ⟨by rfl, ?hy121⟩) (by assumption) ?rest121
      case hy121 => intro w' hSw; (try dsimp only at hSw); go_simp; try with_reducible rfl
      try simp only [Act.put, List.setIfInBounds_toArray, List.set_cons_zero, List.set_cons_succ]
      refine wpAnyH_take (i := 1) (v := ?v122) (ops_at rfl) (by kernel_rfl) (by kernel_rfl) (by kernel_rfl) (fun _ _ _ h => h) (Or.inl ⟨by rfl, ?hy122⟩) (by assumption) ?rest122
      case hy122 => intro w' hSw; (try dsimp only at hSw); go_simp; try with_reducible rfl
      try simp only [Act.put, List.setIfInBounds_toArray, List.set_cons_zero, List.set_cons_succ]
      refine wpAnyH_take (i := 2) (v := ?v123) (ops_at rfl) (by kernel_rfl) (by kernel_rfl) (by kernel_rfl) (fun _ _ _ h => h) (Or.inl ⟨by rfl, ?hy123⟩) (by assumption) ?rest123
      case hy123 => intro w' hSw; (try dsimp only at hSw); go_simp; try with_reducible rfl
      try simp only [Act.put, List.setIfInBounds_toArray, List.set_cons_zero, List.set_cons_succ]
      refine wpAnyH_take (i := 4) (v := ?v124) (ops_at rfl) (by kernel_rfl) (by kernel_rfl) (by kernel_rfl) (fun _ _ _ h => h) (Or.inl ⟨by rfl, ?hy124⟩) (by assumption) ?rest124
      case hy124 => intro w' hSw; (try dsimp only at hSw); go_simp; try with_reducible rfl
      try simp only [Act.put, List.setIfInBounds_toArray, List.set_cons_zero, List.set_cons_succ]
      refine wpAnyH_take (i := 5) (v := ?v125) (ops_at rfl) (by kernel_rfl) (by kernel_rfl) (by kernel_rfl) (fun _ _ _ h => h) (Or.inl ⟨by rfl, ?hy125⟩) (by assumption) ?rest125
      case hy125 => intro w' hSw; (try dsimp only at hSw); go_simp; try with_reducible rfl
      try simp only [Act.put, List.setIfInBounds_toArray, List.set_cons_zero, List.set_cons_succ]
      refine wpAnyH_take (i := 6) (v := ?v126) (ops_at rfl) (by kernel_rfl) (by kernel_rfl) (by kernel_rfl) (fun _ _ _ h => h) (Or.inl ⟨by rfl, ?hy126⟩) (by assumption) ?rest126
      case hy126 => intro w' hSw; (try dsimp only at hSw); go_simp; try with_reducible rfl
      try simp only [Act.put, List.setIfInBounds_toArray, List.set_cons_zero, List.set_cons_succ]
      refine wpAnyH_ready (rs := [3]) (by kernel_rfl) (by simp) ?_
      refine AllReadyH.cons (ops_at rfl) (fun K hK => ?_) AllReadyH.nil
      go_simp
      refine (hnLen S9.drew 3 rfl).mono ?_
      rintro e wz ⟨rfl, rfl⟩
      rw [HN9.out]
      refine hK.out _ _ (by exact HC9.out _ S9.drew) (fun hHeld => ?_)
      clear hK K
      try simp only [Act.put, List.setIfInBounds_toArray, List.set_cons_zero, List.set_cons_succ]
      refine wpAnyH_take (i := 7) (v := ?v128) (ops_at rfl) (by kernel_rfl) (by kernel_rfl) (by kernel_rfl) (fun _ _ _ h => h) (Or.inl ⟨by rfl, ?hy128⟩) (by assumption) ?rest128
      case hy128 => intro w' hSw; (try dsimp only at hSw); go_simp; try with_reducible rfl
      try simp only [Act.put, List.setIfInBounds_toArray, List.set_cons_zero, List.set_cons_succ]
      refine wpAnyH_take (i := 8) (v := ?v129) (ops_at rfl) (by kernel_rfl) (by kernel_rfl) (by kernel_rfl) (fun _ _ _ h => h) (Or.inl ⟨by rfl, ?hy129⟩) (by assumption) ?rest129
      case hy129 => intro w' hSw; (try dsimp only at hSw); go_simp; try with_reducible rfl
      try simp only [Act.put, List.setIfInBounds_toArray, List.set_cons_zero, List.set_cons_succ]
      refine wpAnyH_take (i := 9) (v := ?v130) (ops_at rfl) (by kernel_rfl) (by kernel_rfl) (by kernel_rfl) (fun _ _ _ h => h) (Or.inl ⟨by rfl, ?hy130⟩) (by assumption) ?rest130
      case hy130 => intro w' hSw; (try dsimp only at hSw); go_simp; try with_reducible rfl
      try simp only [Act.put, List.setIfInBounds_toArray, List.set_cons_zero, List.set_cons_succ]
      refine wpAnyH_take (i := 11) (v := ?v131) (ops_at rfl) (by kernel_rfl) (by kernel_rfl) (by kernel_rfl) (fun _ _ _ h => h) (Or.inl ⟨by rfl, ?hy131⟩) (by assumption) ?rest131
      case hy131 => intro w' hSw; (try dsimp only at hSw); go_simp; try with_reducible rfl
      try simp only [Act.put, List.setIfInBounds_toArray, List.set_cons_zero, List.set_cons_succ]
      refine wpAnyH_take (i := 12) (v := ?v132) (ops_at rfl) (by kernel_rfl) (by kernel_rfl) (by kernel_rfl) (fun _ _ _ h => h) (Or.inl ⟨by rfl, ?hy132⟩) (by assumption) ?rest132
      case hy132 => intro w' hSw; (try dsimp only at hSw); go_simp; try with_reducible rfl
      try simp only [Act.put, List.setIfInBounds_toArray, List.set_cons_zero, List.set_cons_succ]
      refine wpAnyH_ready (rs := [10]) (by kernel_rfl) (by simp) ?_
      refine AllReadyH.cons (ops_at rfl) (fun K hK => ?_) AllReadyH.nil
      go_simp
      refine (hnSent S9.drew 3 rfl).mono ?_
      rintro e wz ⟨rfl, rfl⟩
      rw [HK9.out]
      refine hK.out _ _ (by exact HC9.out _ S9.drew) (fun hHeld => ?_)
      clear hK K
      try simp only [Act.put, List.setIfInBounds_toArray, List.set_cons_zero, List.set_cons_succ]
      refine wpAnyH_take (i := 13) (v := ?v134) (ops_at rfl) (by kernel_rfl) (by kernel_rfl) (by kernel_rfl) (fun _ _ _ h => h) (Or.inl ⟨by rfl, ?hy134⟩) (by assumption) ?rest134
      case hy134 => intro w' hSw; (try dsimp only at hSw); go_simp; try with_reducible rfl
      try simp only [Act.put, List.setIfInBounds_toArray, List.set_cons_zero, List.set_cons_succ]
      refine wpAnyH_take (i := 14) (v := ?v135) (ops_at rfl) (by kernel_rfl) (by kernel_rfl) (by kernel_rfl) (fun _ _ _ h => h) (Or.inl ⟨by rfl, ?hy135⟩) (by assumption) ?rest135
      case hy135 => intro w' hSw; (try dsimp only at hSw); go_simp; try with_reducible rfl
      try simp only [Act.put, List.setIfInBounds_toArray, List.set_cons_zero, List.set_cons_succ]
      refine wpAnyH_take (i := 15) (v := ?v136) (ops_at rfl) (by kernel_rfl) (by kernel_rfl) (by kernel_rfl) (fun _ _ _ h => h) (Or.inl ⟨by rfl, ?hy136⟩) (by assumption) ?rest136
      case hy136 => intro w' hSw; (try dsimp only at hSw); go_simp; try with_reducible rfl
      try simp only [Act.put, List.setIfInBounds_toArray, List.set_cons_zero, List.set_cons_succ]
      refine wpAnyH_ready (rs := [16]) (by kernel_rfl) (by simp) ?_
      refine AllReadyH.cons (ops_at rfl) (fun K hK => ?_) AllReadyH.nil
      go_simp
      refine (hnList S9.drew 3 rfl P9 HP9.out).mono ?_
      rintro e wa9 ⟨a91, c91, rfl, T1⟩
      refine hK.out _ _ (by exact HC9.out _ (T1.take 4)) (fun hHeld => ?_)
      clear hK K
      try simp only [Act.put, List.setIfInBounds_toArray, List.set_cons_zero, List.set_cons_succ]
      refine wpAnyH_ready (rs := [17]) (by kernel_rfl) (by simp) ?_
      refine AllReadyH.cons (ops_at rfl) (fun K hK => ?_) AllReadyH.nil
      go_simp
      refine (rnList_any T1 (by have := HN9.out; omega)).mono ?_
      rintro e wb9 ⟨a92, c92, rfl, T2⟩
      rw [HP9.out] at T2 ⊢
      have T3 : St w wb9 (rnL (w3.heap.size + 1) aL9 cL9 aB9 cB9 s9 [netT w3.heap.size s9]) := T2.tail.take 4
      refine hK.out _ _ (by exact HC9.out _ T3) (fun hHeld => ?_)
      clear hK K
      try simp only [Act.put, List.setIfInBounds_toArray, List.set_cons_zero, List.set_cons_succ]
      refine wpAnyH_ready (rs := [18]) (by kernel_rfl) (by simp) ?_
      refine AllReadyH.cons (ops_at rfl) (fun K hK => ?_) AllReadyH.nil
      go_simp
      refine (msame_any a91 a92 (nList s9) P9 c91 c92 _ HP9.out (by omega) (by exact (T2.slG eMok 5 rfl).2.2.2.2) (by exact (T2.slG eMok 0 rfl).2.2.2.2)).mono ?_
      rintro e wc9 ⟨rfl, hb9⟩
      have T4 := T3.grow hb9
      refine hK.out _ _ (by exact HC9.out _ T4) (fun hHeld => ?_)
      clear hK K
      try simp only [Act.put, List.setIfInBounds_toArray, List.set_cons_zero, List.set_cons_succ]
      refine wpAnyH_take (i := 19) (v := ?v140) (ops_at rfl) (by kernel_rfl) (by kernel_rfl) (by kernel_rfl) (fun _ _ _ h => h) (Or.inl ⟨by rfl, ?hy140⟩) (by assumption) ?rest140
      case hy140 => intro w' hSw; (try dsimp only at hSw); go_simp; try with_reducible rfl
      try simp only [Act.put, List.setIfInBounds_toArray, List.set_cons_zero, List.set_cons_succ]
      refine wpAnyH_take (i := 20) (v := ?v141) (ops_at rfl) (by kernel_rfl) (by kernel_rfl) (by kernel_rfl) (fun _ _ _ h => h) (Or.inl ⟨by rfl, ?hy141⟩) (by assumption) ?rest141
      case hy141 => intro w' hSw; (try dsimp only at hSw); go_simp; try with_reducible rfl
      try simp only [Act.put, List.setIfInBounds_toArray, List.set_cons_zero, List.set_cons_succ]
      refine wpAnyH_done (by kernel_rfl) ?_ _
      go_wp2
      go_roundw
      case rel => exact ⟨k + 1, s9, aL9, cL9, aB9, cB9, by omega, by go_num, HS9.out, T4⟩
      case measure => simp [intOf]; omega
    have g5 : (x.kind == 4) = false := by simpa using hk4
    clear hk4
    have HS9 : Hid (s.sent ≤ k + 1) := Nat.le_succ_of_le hsk
    have S9 : St w (wr.alloc (.cells #[.int .i64 x.kind, .int .i64 x.i, .int .i64 x.bit, .int .i64 x.m.node, .int .i64 x.m.kind, .int .i64 x.m.term, .int .i64 x.m.gen, .int .i64 x.m.job, .int .i64 x.m.inc, .int .i64 x.m.version, .int .i64 x.m.epoch, .int .i64 x.m.until_, .int .i64 x.m.mode, .int .i64 x.m.work] 52)) (rnL (w3.heap.size + 1) aL cL aB cB s [netT w3.heap.size s]) := S5.take 4
    clear S5
    have hS9 : s.sent ≤ k + 1 := HS9.out
    have l9 := (S9.netOk 3 rfl).1
    have c9 := S9.cell 0 rfl 0 rfl
    have e9 := S9.cell 0 rfl 2 rfl
    obtain ⟨N9, hN9⟩ : ∃ N9, s.l.length = N9 := ⟨_, rfl⟩
    obtain ⟨K9, hK9⟩ : ∃ K9, s.sent = K9 := ⟨_, rfl⟩
    rw [hN9] at l9 c9
    rw [hK9] at e9 hS9
    have HN9 := hid hN9
    have HK9 := hid hK9
    have HC9 : Hid (∀ w', St w w' (rnL (w3.heap.size + 1) aL cL aB cB s [netT w3.heap.size s]) → w'.cell? ⟨w3.heap.size + 1, 0, none⟩ = some (.slice aL N9 cL) ∧ w'.cell? ⟨w3.heap.size + 1, 2, none⟩ = some (.int .i64 (K9 : Int))) := by
      intro w' S'
      rw [← hN9, ← hK9]
      exact ⟨S'.cell 0 rfl 0 rfl, S'.cell 0 rfl 2 rfl⟩
    clear hN9 hK9
    have k1 : ((N9 : Int) != (N9 : Int)) = false := by simp
    have k2 : ((K9 : Int) != (K9 : Int)) = false := by simp
    obtain ⟨P9, hP9⟩ : ∃ P9, (nList s).length = P9 := ⟨_, rfl⟩
    have hP40 : P9 ≤ 40 := by
      have := List.length_filterMap_le NM.shown s.l
      rw [← hP9]; unfold nList; have := HN9.out; omega
    have HP9 := hid hP9
    clear hP9
    go_wp2_with fail
    refine wp_region_held_drew (S := (fun w' => w'.cell? ⟨w3.heap.size + 1, 0, none⟩ = some (.slice aL N9 cL) ∧ w'.cell? ⟨w3.heap.size + 1, 2, none⟩ = some (.int .i64 (K9 : Int)))) (by kernel_rfl) (by exact HC9.out _ S9.drew) (fun hHeld => ?_)
    change wpAnyH _ _ _ _ _ 21 (Array.replicate 21 false) _ _
    refine wpAnyH_take (i := 0) (v := ?v142) (ops_at rfl) (by kernel_rfl) (by kernel_rfl) (by kernel_rfl) (fun _ _ _ h => h) (Or.inl ⟨by rfl, ?hy142⟩) (by assumption) ?rest142
    case hy142 => intro w' hSw; (try dsimp only at hSw); go_simp; try with_reducible rfl
    try simp only [Act.put, List.setIfInBounds_toArray, List.set_cons_zero, List.set_cons_succ]
    refine wpAnyH_take (i := 1) (v := ?v143) (ops_at rfl) (by kernel_rfl) (by kernel_rfl) (by kernel_rfl) (fun _ _ _ h => h) (Or.inl ⟨by rfl, ?hy143⟩) (by assumption) ?rest143
    case hy143 => intro w' hSw; (try dsimp only at hSw); go_simp; try with_reducible rfl
    try simp only [Act.put, List.setIfInBounds_toArray, List.set_cons_zero, List.set_cons_succ]
    refine wpAnyH_take (i := 2) (v := ?v144) (ops_at rfl) (by kernel_rfl) (by kernel_rfl) (by kernel_rfl) (fun _ _ _ h => h) (Or.inl ⟨by rfl, ?hy144⟩) (by assumption) ?rest144
    case hy144 => intro w' hSw; (try dsimp only at hSw); go_simp; try with_reducible rfl
    try simp only [Act.put, List.setIfInBounds_toArray, List.set_cons_zero, List.set_cons_succ]
    refine wpAnyH_take (i := 4) (v := ?v145) (ops_at rfl) (by kernel_rfl) (by kernel_rfl) (by kernel_rfl) (fun _ _ _ h => h) (Or.inl ⟨by rfl, ?hy145⟩) (by assumption) ?rest145
    case hy145 => intro w' hSw; (try dsimp only at hSw); go_simp; try with_reducible rfl
    try simp only [Act.put, List.setIfInBounds_toArray, List.set_cons_zero, List.set_cons_succ]
    refine wpAnyH_take (i := 5) (v := ?v146) (ops_at rfl) (by kernel_rfl) (by kernel_rfl) (by kernel_rfl) (fun _ _ _ h => h) (Or.inl ⟨by rfl, ?hy146⟩) (by assumption) ?rest146
    case hy146 => intro w' hSw; (try dsimp only at hSw); go_simp; try with_reducible rfl
    try simp only [Act.put, List.setIfInBounds_toArray, List.set_cons_zero, List.set_cons_succ]
    refine wpAnyH_take (i := 6) (v := ?v147) (ops_at rfl) (by kernel_rfl) (by kernel_rfl) (by kernel_rfl) (fun _ _ _ h => h) (Or.inl ⟨by rfl, ?hy147⟩) (by assumption) ?rest147
    case hy147 => intro w' hSw; (try dsimp only at hSw); go_simp; try with_reducible rfl
    try simp only [Act.put, List.setIfInBounds_toArray, List.set_cons_zero, List.set_cons_succ]
    refine wpAnyH_ready (rs := [3]) (by kernel_rfl) (by simp) ?_
    refine AllReadyH.cons (ops_at rfl) (fun K hK => ?_) AllReadyH.nil
    go_simp
    refine (hnLen S9.drew 3 rfl).mono ?_
    rintro e wz ⟨rfl, rfl⟩
    rw [HN9.out]
    refine hK.out _ _ (by exact HC9.out _ S9.drew) (fun hHeld => ?_)
    clear hK K
    try simp only [Act.put, List.setIfInBounds_toArray, List.set_cons_zero, List.set_cons_succ]
    refine wpAnyH_take (i := 7) (v := ?v149) (ops_at rfl) (by kernel_rfl) (by kernel_rfl) (by kernel_rfl) (fun _ _ _ h => h) (Or.inl ⟨by rfl, ?hy149⟩) (by assumption) ?rest149
    case hy149 => intro w' hSw; (try dsimp only at hSw); go_simp; try with_reducible rfl
    try simp only [Act.put, List.setIfInBounds_toArray, List.set_cons_zero, List.set_cons_succ]
    refine wpAnyH_take (i := 8) (v := ?v150) (ops_at rfl) (by kernel_rfl) (by kernel_rfl) (by kernel_rfl) (fun _ _ _ h => h) (Or.inl ⟨by rfl, ?hy150⟩) (by assumption) ?rest150
    case hy150 => intro w' hSw; (try dsimp only at hSw); go_simp; try with_reducible rfl
    try simp only [Act.put, List.setIfInBounds_toArray, List.set_cons_zero, List.set_cons_succ]
    refine wpAnyH_take (i := 9) (v := ?v151) (ops_at rfl) (by kernel_rfl) (by kernel_rfl) (by kernel_rfl) (fun _ _ _ h => h) (Or.inl ⟨by rfl, ?hy151⟩) (by assumption) ?rest151
    case hy151 => intro w' hSw; (try dsimp only at hSw); go_simp; try with_reducible rfl
    try simp only [Act.put, List.setIfInBounds_toArray, List.set_cons_zero, List.set_cons_succ]
    refine wpAnyH_take (i := 11) (v := ?v152) (ops_at rfl) (by kernel_rfl) (by kernel_rfl) (by kernel_rfl) (fun _ _ _ h => h) (Or.inl ⟨by rfl, ?hy152⟩) (by assumption) ?rest152
    case hy152 => intro w' hSw; (try dsimp only at hSw); go_simp; try with_reducible rfl
    try simp only [Act.put, List.setIfInBounds_toArray, List.set_cons_zero, List.set_cons_succ]
    refine wpAnyH_take (i := 12) (v := ?v153) (ops_at rfl) (by kernel_rfl) (by kernel_rfl) (by kernel_rfl) (fun _ _ _ h => h) (Or.inl ⟨by rfl, ?hy153⟩) (by assumption) ?rest153
    case hy153 => intro w' hSw; (try dsimp only at hSw); go_simp; try with_reducible rfl
    try simp only [Act.put, List.setIfInBounds_toArray, List.set_cons_zero, List.set_cons_succ]
    refine wpAnyH_ready (rs := [10]) (by kernel_rfl) (by simp) ?_
    refine AllReadyH.cons (ops_at rfl) (fun K hK => ?_) AllReadyH.nil
    go_simp
    refine (hnSent S9.drew 3 rfl).mono ?_
    rintro e wz ⟨rfl, rfl⟩
    rw [HK9.out]
    refine hK.out _ _ (by exact HC9.out _ S9.drew) (fun hHeld => ?_)
    clear hK K
    try simp only [Act.put, List.setIfInBounds_toArray, List.set_cons_zero, List.set_cons_succ]
    refine wpAnyH_take (i := 13) (v := ?v155) (ops_at rfl) (by kernel_rfl) (by kernel_rfl) (by kernel_rfl) (fun _ _ _ h => h) (Or.inl ⟨by rfl, ?hy155⟩) (by assumption) ?rest155
    case hy155 => intro w' hSw; (try dsimp only at hSw); go_simp; try with_reducible rfl
    try simp only [Act.put, List.setIfInBounds_toArray, List.set_cons_zero, List.set_cons_succ]
    refine wpAnyH_take (i := 14) (v := ?v156) (ops_at rfl) (by kernel_rfl) (by kernel_rfl) (by kernel_rfl) (fun _ _ _ h => h) (Or.inl ⟨by rfl, ?hy156⟩) (by assumption) ?rest156
    case hy156 => intro w' hSw; (try dsimp only at hSw); go_simp; try with_reducible rfl
    try simp only [Act.put, List.setIfInBounds_toArray, List.set_cons_zero, List.set_cons_succ]
    refine wpAnyH_take (i := 15) (v := ?v157) (ops_at rfl) (by kernel_rfl) (by kernel_rfl) (by kernel_rfl) (fun _ _ _ h => h) (Or.inl ⟨by rfl, ?hy157⟩) (by assumption) ?rest157
    case hy157 => intro w' hSw; (try dsimp only at hSw); go_simp; try with_reducible rfl
    try simp only [Act.put, List.setIfInBounds_toArray, List.set_cons_zero, List.set_cons_succ]
    refine wpAnyH_ready (rs := [16]) (by kernel_rfl) (by simp) ?_
    refine AllReadyH.cons (ops_at rfl) (fun K hK => ?_) AllReadyH.nil
    go_simp
    refine (hnList S9.drew 3 rfl P9 HP9.out).mono ?_
    rintro e wa9 ⟨a91, c91, rfl, T1⟩
    refine hK.out _ _ (by exact HC9.out _ (T1.take 4)) (fun hHeld => ?_)
    clear hK K
    try simp only [Act.put, List.setIfInBounds_toArray, List.set_cons_zero, List.set_cons_succ]
    refine wpAnyH_ready (rs := [17]) (by kernel_rfl) (by simp) ?_
    refine AllReadyH.cons (ops_at rfl) (fun K hK => ?_) AllReadyH.nil
    go_simp
    refine (rnList_any T1 (by have := HN9.out; omega)).mono ?_
    rintro e wb9 ⟨a92, c92, rfl, T2⟩
    rw [HP9.out] at T2 ⊢
    have T3 : St w wb9 (rnL (w3.heap.size + 1) aL cL aB cB s [netT w3.heap.size s]) := T2.tail.take 4
    refine hK.out _ _ (by exact HC9.out _ T3) (fun hHeld => ?_)
    clear hK K
    try simp only [Act.put, List.setIfInBounds_toArray, List.set_cons_zero, List.set_cons_succ]
    refine wpAnyH_ready (rs := [18]) (by kernel_rfl) (by simp) ?_
    refine AllReadyH.cons (ops_at rfl) (fun K hK => ?_) AllReadyH.nil
    go_simp
    refine (msame_any a91 a92 (nList s) P9 c91 c92 _ HP9.out (by omega) (by exact (T2.slG eMok 5 rfl).2.2.2.2) (by exact (T2.slG eMok 0 rfl).2.2.2.2)).mono ?_
    rintro e wc9 ⟨rfl, hb9⟩
    have T4 := T3.grow hb9
    refine hK.out _ _ (by exact HC9.out _ T4) (fun hHeld => ?_)
    clear hK K
    try simp only [Act.put, List.setIfInBounds_toArray, List.set_cons_zero, List.set_cons_succ]
    refine wpAnyH_take (i := 19) (v := ?v161) (ops_at rfl) (by kernel_rfl) (by kernel_rfl) (by kernel_rfl) (fun _ _ _ h => h) (Or.inl ⟨by rfl, ?hy161⟩) (by assumption) ?rest161
    case hy161 => intro w' hSw; (try dsimp only at hSw); go_simp; try with_reducible rfl
    try simp only [Act.put, List.setIfInBounds_toArray, List.set_cons_zero, List.set_cons_succ]
    refine wpAnyH_take (i := 20) (v := ?v162) (ops_at rfl) (by kernel_rfl) (by kernel_rfl) (by kernel_rfl) (fun _ _ _ h => h) (Or.inl ⟨by rfl, ?hy162⟩) (by assumption) ?rest162
    case hy162 => intro w' hSw; (try dsimp only at hSw); go_simp; try with_reducible rfl
    try simp only [Act.put, List.setIfInBounds_toArray, List.set_cons_zero, List.set_cons_succ]
    refine wpAnyH_done (by kernel_rfl) ?_ _
    go_wp2
    go_roundw
    case rel => exact ⟨k + 1, s, aL, cL, aB, cB, by omega, by go_num, HS9.out, T4⟩
    case measure => simp [intOf]; omega

end Go.Proofs.Ytjibmbejfpdifaa
