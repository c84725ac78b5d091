/- DiskKeeps. -/
import Derived.Test.YtbdclgopdildmaaDiskActs
import Derived.Test.YtbdclgopdildmaaStep
namespace Go.Proofs.Ytbdclgopdildmaa
set_option linter.unusedVariables false
set_option linter.unusedSimpArgs false
open Go.RowKit

def wW (x : List UInt8) (W : List (Nat × List UInt8)) (a : Int) (b : List UInt8) : List (Nat × List UInt8) := (DSt.write ⟨x, W, 0⟩ a b).waits
theorem write_wW (x : List UInt8) (W : List (Nat × List UInt8)) (s : Nat) (a : Int) (b : List UInt8) : (⟨x, W, s⟩ : DSt).write a b = ⟨x, wW x W a b, s⟩ := by
  unfold wW DSt.write
  have e : (⟨x, W, s⟩ : DSt).can a b.length = (⟨x, W, 0⟩ : DSt).can a b.length := rfl
  rw [e]
  split <;> rfl
theorem wW_len (x : List UInt8) (W : List (Nat × List UInt8)) (a : Int) (b : List UInt8) : (wW x W a b).length ≤ W.length + 1 := DSt.write_waits _ _ _

set_option maxRecDepth 10000 in
set_option maxHeartbeats 3200000 in
theorem diskKeeps_law (size keep : Int) (a : Option Addr) (L : List DAct) (m cap : Nat) (w : World) (hm : L.length = m) (hm1 : m ≤ maxLen) (hA : AtG eDA w a L) (hok : ∀ x ∈ L, DAct.Ok w x)
    (hk0 : -9223372036854775808 ≤ keep) (hk1 : keep ≤ 9223372036854775807) :
    Calls Try.prog 4 #[.int .i64 size, .slice a m cap, .int .i64 keep] w fun e w' => e = .returned (.bool true) ∧ Below w.heap.size w w' := by
  have HM := hid hm
  have HA := hid hA
  have HOk := hid hok
  have S0 := St.start w
  have hmL := hm1
  unfold maxLen at hmL
  clear hm hA hok
  by_cases hf : few4 L = true
  case neg =>
    have HF : Hid (few4 L = false) := by rw [Hid]; simpa using hf
    clear hf
    go_enter Try.func4, Try.ntmps4
    go_wp2_with fail
    refine (alive4_any _).mono ?_
    rintro e w1 ⟨rfl, hb1⟩
    have S1 := S0.grow hb1
    clear hb1
    go_wp2_with (refine (few4_any a L m cap w1 HM.out hm1 (by exact HA.out.all eDAok S1.fin)).mono ?_; rintro e w2 ⟨rfl, rfl⟩; rw [HF.out])
    all_goals (go_ret; exact ⟨rfl, S1.fin⟩)
  have HF := hid hf
  have hfw := hf
  unfold few4 at hfw
  rw [Bool.and_eq_true, decide_eq_true_iff, List.all_eq_true, HM.out] at hfw
  have HF2 := hid hfw.2
  have hm60 := hfw.1
  clear hf hfw
  go_enter Try.func4, Try.ntmps4
  go_wp2_with fail
  refine (alive4_any _).mono ?_
  rintro e w1 ⟨rfl, hb1⟩
  have S1 := S0.grow hb1
  clear hb1
  go_wp2_with (refine (few4_any a L m cap w1 HM.out hm1 (by exact HA.out.all eDAok S1.fin)).mono ?_; rintro e w2 ⟨rfl, rfl⟩; rw [HF.out])
  all_goals (try (go_ret; exact ⟨rfl, S1.fin⟩))
  obtain ⟨n, rfl⟩ := Int.eq_ofNat_of_zero_le (show 0 ≤ size by omega)
  go_wp2_with fail
  refine (hnew S1 n (by omega) (by omega)).mono ?_
  rintro e w2 ⟨pa, rfl, S2, -⟩
  go_wp2_with fail
  refine (hnew S2 n (by omega) (by omega)).mono ?_
  rintro e w3 ⟨pb, rfl, S3, -⟩
  go_wp2_with fail
  refine (hnew S3 n (by omega) (by omega)).mono ?_
  rintro e w4 ⟨pc, rfl, S4, -⟩
  go_wp2_with fail
  refine (hbytes S4 0 rfl (by simp [DSt.new]) n (by simp [DSt.new, DSt.bytes, dAll])).mono ?_
  rintro e w5 ⟨al, cl, rfl, S5, -⟩
  go_wp2_with fail
  go_loopw [10, 11] (fun v i wr => ∃ (k : Nat) (x : List UInt8) (W : List (Nat × List UInt8)) (s : Nat) (al : Option Addr) (cl : Nat), k ≤ m ∧ v = .slice al n cl ∧ i = .int .i64 k ∧ W.length ≤ k ∧ s ≤ k ∧
    St w wr [diskT pa ⟨x, W, s⟩, diskT pb ⟨x, W, 0⟩, diskT pc ⟨x, W, s⟩, bytesT (.slice al n cl) x]) (fun _ i _ => m - (intOf i).toNat)
  case atStart => exact ⟨0, List.replicate n 0, [], 0, al, cl, Nat.zero_le _, rfl, rfl, Nat.zero_le _, Nat.zero_le _, S5⟩
  case round =>
    obtain ⟨k, x, W, s, al, cl, hk, rfl, rfl, hW, hs, Sk⟩ := hrel
    by_cases hlt : k < m
    · have hkl : k < L.length := by rw [HM.out]; exact hlt
      have i0 := fun wx => idxDA a m cap (fun h => HA.out.ok (by rw [HM.out]; exact h)) k k rfl hlt wx
      have HEl : Hid (∀ w', Below w.heap.size w w' → _ ∧ _ ∧ _) := fun w' hb => (HA.out.all eDAok hb).cell2 hkl
      have HX := hid (HOk.out _ (List.getElem_mem hkl))
      have HX3 := HF2.out _ (List.getElem_mem hkl)
      rw [decide_eq_true_iff] at HX3
      generalize L[k] = q at *
      generalize adr a (k * 3) = A at *
      obtain ⟨y0, y1, y2⟩ := HEl.out _ Sk.fin
      by_cases hq : q.kind = 0
      · have g0 : (q.kind != 0) = false := by simpa using hq
        have HW := hid (write_wW x W)
        clear hq
        go_wp2_with fail
        refine wp_region_held_drew (S := (fun w' => w'.cell? A = some (.int .i64 q.kind) ∧ w'.cell? { block := A.block, off := A.off + 1 } = some (.int .i64 q.at_) ∧ w'.cell? { block := A.block, off := A.off + 2 } = some (.slice q.a q.n q.c))) (by kernel_rfl) (by exact HEl.out _ Sk.drew.fin) (fun hHeld => ?_)
        change wpAnyH _ _ _ _ _ 12 (Array.replicate 12 false) _ _
        refine wpAnyH_take (i := 0) (v := ?v1) (ops_at rfl) (by kernel_rfl) (by kernel_rfl) (by kernel_rfl) (fun _ _ _ h => h) (Or.inl ⟨by rfl, ?hy1⟩) (by assumption) ?rest1
        case hy1 => intro w' hSw; (try dsimp only at hSw); go_simp; try with_reducible rfl
        try simp only [Act.put, List.setIfInBounds_toArray, List.set_cons_zero, List.set_cons_succ]
        refine wpAnyH_take (i := 1) (v := ?v2) (ops_at rfl) (by kernel_rfl) (by kernel_rfl) (by kernel_rfl) (fun _ _ _ h => h) (Or.inl ⟨by rfl, ?hy2⟩) (by assumption) ?rest2
        case hy2 => intro w' hSw; (try dsimp only at hSw); go_simp; try with_reducible rfl
        try simp only [Act.put, List.setIfInBounds_toArray, List.set_cons_zero, List.set_cons_succ]
        refine wpAnyH_take (i := 2) (v := ?v3) (ops_at rfl) (by kernel_rfl) (by kernel_rfl) (by kernel_rfl) (fun _ _ _ h => h) (Or.inl ⟨by rfl, ?hy3⟩) (by assumption) ?rest3
        case hy3 => intro w' hSw; (try dsimp only at hSw); go_simp; try with_reducible rfl
        try simp only [Act.put, List.setIfInBounds_toArray, List.set_cons_zero, List.set_cons_succ]
        refine wpAnyH_take (i := 3) (v := ?v4) (ops_at rfl) (by kernel_rfl) (by kernel_rfl) (by kernel_rfl) (fun _ _ _ h => h) (Or.inl ⟨by rfl, ?hy4⟩) (by assumption) ?rest4
        case hy4 => intro w' hSw; (try dsimp only at hSw); go_simp; try with_reducible rfl
        try simp only [Act.put, List.setIfInBounds_toArray, List.set_cons_zero, List.set_cons_succ]
        refine wpAnyH_take (i := 4) (v := ?v5) (ops_at rfl) (by kernel_rfl) (by kernel_rfl) (by kernel_rfl) (fun _ _ _ h => h) (Or.inl ⟨by rfl, ?hy5⟩) (by assumption) ?rest5
        case hy5 => intro w' hSw; (try dsimp only at hSw); go_simp; try with_reducible rfl
        try simp only [Act.put, List.setIfInBounds_toArray, List.set_cons_zero, List.set_cons_succ]
        refine wpAnyH_take (i := 5) (v := ?v6) (ops_at rfl) (by kernel_rfl) (by kernel_rfl) (by kernel_rfl) (fun _ _ _ h => h) (Or.inl ⟨by rfl, ?hy6⟩) (by assumption) ?rest6
        case hy6 => intro w' hSw; (try dsimp only at hSw); go_simp; try with_reducible rfl
        try simp only [Act.put, List.setIfInBounds_toArray, List.set_cons_zero, List.set_cons_succ]
        refine wpAnyH_take (i := 6) (v := ?v7) (ops_at rfl) (by kernel_rfl) (by kernel_rfl) (by kernel_rfl) (fun _ _ _ h => h) (Or.inl ⟨by rfl, ?hy7⟩) (by assumption) ?rest7
        case hy7 => intro w' hSw; (try dsimp only at hSw); go_simp; try with_reducible rfl
        try simp only [Act.put, List.setIfInBounds_toArray, List.set_cons_zero, List.set_cons_succ]
        refine wpAnyH_take (i := 7) (v := ?v8) (ops_at rfl) (by kernel_rfl) (by kernel_rfl) (by kernel_rfl) (fun _ _ _ h => h) (Or.inl ⟨by rfl, ?hy8⟩) (by assumption) ?rest8
        case hy8 => intro w' hSw; (try dsimp only at hSw); go_simp; try with_reducible rfl
        try simp only [Act.put, List.setIfInBounds_toArray, List.set_cons_zero, List.set_cons_succ]
        refine wpAnyH_take (i := 8) (v := ?v9) (ops_at rfl) (by kernel_rfl) (by kernel_rfl) (by kernel_rfl) (fun _ _ _ h => h) (Or.inl ⟨by rfl, ?hy9⟩) (by assumption) ?rest9
        case hy9 => intro w' hSw; (try dsimp only at hSw); go_simp; try with_reducible rfl
        try simp only [Act.put, List.setIfInBounds_toArray, List.set_cons_zero, List.set_cons_succ]
        refine wpAnyH_take (i := 9) (v := ?v10) (ops_at rfl) (by kernel_rfl) (by kernel_rfl) (by kernel_rfl) (fun _ _ _ h => h) (Or.inl ⟨by rfl, ?hy10⟩) (by assumption) ?rest10
        case hy10 => intro w' hSw; (try dsimp only at hSw); go_simp; try with_reducible rfl
        try simp only [Act.put, List.setIfInBounds_toArray, List.set_cons_zero, List.set_cons_succ]
        refine wpAnyH_take (i := 10) (v := ?v11) (ops_at rfl) (by kernel_rfl) (by kernel_rfl) (by kernel_rfl) (fun _ _ _ h => h) (Or.inl ⟨by rfl, ?hy11⟩) (by assumption) ?rest11
        case hy11 => intro w' hSw; (try dsimp only at hSw); go_simp; try with_reducible rfl
        try simp only [Act.put, List.setIfInBounds_toArray, List.set_cons_zero, List.set_cons_succ]
        refine wpAnyH_ready (rs := [11]) (by kernel_rfl) (by simp) ?_
        refine AllReadyH.cons (ops_at rfl) (fun K hK => ?_) AllReadyH.nil
        go_simp
        refine (hwrite Sk.drew 0 rfl q.at_ q.a q.b q.n q.c _ rfl HX.out.len (by omega) (by show W.length ≤ _; omega) HX.out.nil (by exact Sk.drew.old HX.out.at_)).mono ?_
        rintro e w6 ⟨rfl, S6⟩
        refine hK.out _ _ (by exact HEl.out _ S6.fin) (fun hHeld => ?_)
        clear hK K
        try simp only [Act.put, List.setIfInBounds_toArray, List.set_cons_zero, List.set_cons_succ]
        refine wpAnyH_done (by kernel_rfl) ?_ _
        obtain ⟨y0, y1, y2⟩ := HEl.out _ S6.fin
        go_wp2_with fail
        refine wp_region_held_drew (S := (fun w' => w'.cell? A = some (.int .i64 q.kind) ∧ w'.cell? { block := A.block, off := A.off + 1 } = some (.int .i64 q.at_) ∧ w'.cell? { block := A.block, off := A.off + 2 } = some (.slice q.a q.n q.c))) (by kernel_rfl) (by exact HEl.out _ S6.drew.fin) (fun hHeld => ?_)
        change wpAnyH _ _ _ _ _ 12 (Array.replicate 12 false) _ _
        refine wpAnyH_take (i := 0) (v := ?v13) (ops_at rfl) (by kernel_rfl) (by kernel_rfl) (by kernel_rfl) (fun _ _ _ h => h) (Or.inl ⟨by rfl, ?hy13⟩) (by assumption) ?rest13
        case hy13 => intro w' hSw; (try dsimp only at hSw); go_simp; try with_reducible rfl
        try simp only [Act.put, List.setIfInBounds_toArray, List.set_cons_zero, List.set_cons_succ]
        refine wpAnyH_take (i := 1) (v := ?v14) (ops_at rfl) (by kernel_rfl) (by kernel_rfl) (by kernel_rfl) (fun _ _ _ h => h) (Or.inl ⟨by rfl, ?hy14⟩) (by assumption) ?rest14
        case hy14 => intro w' hSw; (try dsimp only at hSw); go_simp; try with_reducible rfl
        try simp only [Act.put, List.setIfInBounds_toArray, List.set_cons_zero, List.set_cons_succ]
        refine wpAnyH_take (i := 2) (v := ?v15) (ops_at rfl) (by kernel_rfl) (by kernel_rfl) (by kernel_rfl) (fun _ _ _ h => h) (Or.inl ⟨by rfl, ?hy15⟩) (by assumption) ?rest15
        case hy15 => intro w' hSw; (try dsimp only at hSw); go_simp; try with_reducible rfl
        try simp only [Act.put, List.setIfInBounds_toArray, List.set_cons_zero, List.set_cons_succ]
        refine wpAnyH_take (i := 3) (v := ?v16) (ops_at rfl) (by kernel_rfl) (by kernel_rfl) (by kernel_rfl) (fun _ _ _ h => h) (Or.inl ⟨by rfl, ?hy16⟩) (by assumption) ?rest16
        case hy16 => intro w' hSw; (try dsimp only at hSw); go_simp; try with_reducible rfl
        try simp only [Act.put, List.setIfInBounds_toArray, List.set_cons_zero, List.set_cons_succ]
        refine wpAnyH_take (i := 4) (v := ?v17) (ops_at rfl) (by kernel_rfl) (by kernel_rfl) (by kernel_rfl) (fun _ _ _ h => h) (Or.inl ⟨by rfl, ?hy17⟩) (by assumption) ?rest17
        case hy17 => intro w' hSw; (try dsimp only at hSw); go_simp; try with_reducible rfl
        try simp only [Act.put, List.setIfInBounds_toArray, List.set_cons_zero, List.set_cons_succ]
        refine wpAnyH_take (i := 5) (v := ?v18) (ops_at rfl) (by kernel_rfl) (by kernel_rfl) (by kernel_rfl) (fun _ _ _ h => h) (Or.inl ⟨by rfl, ?hy18⟩) (by assumption) ?rest18
        case hy18 => intro w' hSw; (try dsimp only at hSw); go_simp; try with_reducible rfl
        try simp only [Act.put, List.setIfInBounds_toArray, List.set_cons_zero, List.set_cons_succ]
        refine wpAnyH_take (i := 6) (v := ?v19) (ops_at rfl) (by kernel_rfl) (by kernel_rfl) (by kernel_rfl) (fun _ _ _ h => h) (Or.inl ⟨by rfl, ?hy19⟩) (by assumption) ?rest19
        case hy19 => intro w' hSw; (try dsimp only at hSw); go_simp; try with_reducible rfl
        try simp only [Act.put, List.setIfInBounds_toArray, List.set_cons_zero, List.set_cons_succ]
        refine wpAnyH_take (i := 7) (v := ?v20) (ops_at rfl) (by kernel_rfl) (by kernel_rfl) (by kernel_rfl) (fun _ _ _ h => h) (Or.inl ⟨by rfl, ?hy20⟩) (by assumption) ?rest20
        case hy20 => intro w' hSw; (try dsimp only at hSw); go_simp; try with_reducible rfl
        try simp only [Act.put, List.setIfInBounds_toArray, List.set_cons_zero, List.set_cons_succ]
        refine wpAnyH_take (i := 8) (v := ?v21) (ops_at rfl) (by kernel_rfl) (by kernel_rfl) (by kernel_rfl) (fun _ _ _ h => h) (Or.inl ⟨by rfl, ?hy21⟩) (by assumption) ?rest21
        case hy21 => intro w' hSw; (try dsimp only at hSw); go_simp; try with_reducible rfl
        try simp only [Act.put, List.setIfInBounds_toArray, List.set_cons_zero, List.set_cons_succ]
        refine wpAnyH_take (i := 9) (v := ?v22) (ops_at rfl) (by kernel_rfl) (by kernel_rfl) (by kernel_rfl) (fun _ _ _ h => h) (Or.inl ⟨by rfl, ?hy22⟩) (by assumption) ?rest22
        case hy22 => intro w' hSw; (try dsimp only at hSw); go_simp; try with_reducible rfl
        try simp only [Act.put, List.setIfInBounds_toArray, List.set_cons_zero, List.set_cons_succ]
        refine wpAnyH_take (i := 10) (v := ?v23) (ops_at rfl) (by kernel_rfl) (by kernel_rfl) (by kernel_rfl) (fun _ _ _ h => h) (Or.inl ⟨by rfl, ?hy23⟩) (by assumption) ?rest23
        case hy23 => intro w' hSw; (try dsimp only at hSw); go_simp; try with_reducible rfl
        try simp only [Act.put, List.setIfInBounds_toArray, List.set_cons_zero, List.set_cons_succ]
        refine wpAnyH_ready (rs := [11]) (by kernel_rfl) (by simp) ?_
        refine AllReadyH.cons (ops_at rfl) (fun K hK => ?_) AllReadyH.nil
        go_simp
        refine (hwrite S6.drew 1 rfl q.at_ q.a q.b q.n q.c _ rfl HX.out.len (by omega) (by show W.length ≤ _; omega) HX.out.nil (by exact S6.drew.old HX.out.at_)).mono ?_
        rintro e w7 ⟨rfl, S7⟩
        refine hK.out _ _ (by exact HEl.out _ S7.fin) (fun hHeld => ?_)
        clear hK K
        try simp only [Act.put, List.setIfInBounds_toArray, List.set_cons_zero, List.set_cons_succ]
        refine wpAnyH_done (by kernel_rfl) ?_ _
        obtain ⟨y0, y1, y2⟩ := HEl.out _ S7.fin
        go_wp2_with fail
        refine wp_region_held_drew (S := (fun w' => w'.cell? A = some (.int .i64 q.kind) ∧ w'.cell? { block := A.block, off := A.off + 1 } = some (.int .i64 q.at_) ∧ w'.cell? { block := A.block, off := A.off + 2 } = some (.slice q.a q.n q.c))) (by kernel_rfl) (by exact HEl.out _ S7.drew.fin) (fun hHeld => ?_)
        change wpAnyH _ _ _ _ _ 12 (Array.replicate 12 false) _ _
        refine wpAnyH_take (i := 0) (v := ?v25) (ops_at rfl) (by kernel_rfl) (by kernel_rfl) (by kernel_rfl) (fun _ _ _ h => h) (Or.inl ⟨by rfl, ?hy25⟩) (by assumption) ?rest25
        case hy25 => intro w' hSw; (try dsimp only at hSw); go_simp; try with_reducible rfl
        try simp only [Act.put, List.setIfInBounds_toArray, List.set_cons_zero, List.set_cons_succ]
        refine wpAnyH_take (i := 1) (v := ?v26) (ops_at rfl) (by kernel_rfl) (by kernel_rfl) (by kernel_rfl) (fun _ _ _ h => h) (Or.inl ⟨by rfl, ?hy26⟩) (by assumption) ?rest26
        case hy26 => intro w' hSw; (try dsimp only at hSw); go_simp; try with_reducible rfl
        try simp only [Act.put, List.setIfInBounds_toArray, List.set_cons_zero, List.set_cons_succ]
        refine wpAnyH_take (i := 2) (v := ?v27) (ops_at rfl) (by kernel_rfl) (by kernel_rfl) (by kernel_rfl) (fun _ _ _ h => h) (Or.inl ⟨by rfl, ?hy27⟩) (by assumption) ?rest27
        case hy27 => intro w' hSw; (try dsimp only at hSw); go_simp; try with_reducible rfl
        try simp only [Act.put, List.setIfInBounds_toArray, List.set_cons_zero, List.set_cons_succ]
        refine wpAnyH_take (i := 3) (v := ?v28) (ops_at rfl) (by kernel_rfl) (by kernel_rfl) (by kernel_rfl) (fun _ _ _ h => h) (Or.inl ⟨by rfl, ?hy28⟩) (by assumption) ?rest28
        case hy28 => intro w' hSw; (try dsimp only at hSw); go_simp; try with_reducible rfl
        try simp only [Act.put, List.setIfInBounds_toArray, List.set_cons_zero, List.set_cons_succ]
        refine wpAnyH_take (i := 4) (v := ?v29) (ops_at rfl) (by kernel_rfl) (by kernel_rfl) (by kernel_rfl) (fun _ _ _ h => h) (Or.inl ⟨by rfl, ?hy29⟩) (by assumption) ?rest29
        case hy29 => intro w' hSw; (try dsimp only at hSw); go_simp; try with_reducible rfl
        try simp only [Act.put, List.setIfInBounds_toArray, List.set_cons_zero, List.set_cons_succ]
        refine wpAnyH_take (i := 5) (v := ?v30) (ops_at rfl) (by kernel_rfl) (by kernel_rfl) (by kernel_rfl) (fun _ _ _ h => h) (Or.inl ⟨by rfl, ?hy30⟩) (by assumption) ?rest30
        case hy30 => intro w' hSw; (try dsimp only at hSw); go_simp; try with_reducible rfl
        try simp only [Act.put, List.setIfInBounds_toArray, List.set_cons_zero, List.set_cons_succ]
        refine wpAnyH_take (i := 6) (v := ?v31) (ops_at rfl) (by kernel_rfl) (by kernel_rfl) (by kernel_rfl) (fun _ _ _ h => h) (Or.inl ⟨by rfl, ?hy31⟩) (by assumption) ?rest31
        case hy31 => intro w' hSw; (try dsimp only at hSw); go_simp; try with_reducible rfl
        try simp only [Act.put, List.setIfInBounds_toArray, List.set_cons_zero, List.set_cons_succ]
        refine wpAnyH_take (i := 7) (v := ?v32) (ops_at rfl) (by kernel_rfl) (by kernel_rfl) (by kernel_rfl) (fun _ _ _ h => h) (Or.inl ⟨by rfl, ?hy32⟩) (by assumption) ?rest32
        case hy32 => intro w' hSw; (try dsimp only at hSw); go_simp; try with_reducible rfl
        try simp only [Act.put, List.setIfInBounds_toArray, List.set_cons_zero, List.set_cons_succ]
        refine wpAnyH_take (i := 8) (v := ?v33) (ops_at rfl) (by kernel_rfl) (by kernel_rfl) (by kernel_rfl) (fun _ _ _ h => h) (Or.inl ⟨by rfl, ?hy33⟩) (by assumption) ?rest33
        case hy33 => intro w' hSw; (try dsimp only at hSw); go_simp; try with_reducible rfl
        try simp only [Act.put, List.setIfInBounds_toArray, List.set_cons_zero, List.set_cons_succ]
        refine wpAnyH_take (i := 9) (v := ?v34) (ops_at rfl) (by kernel_rfl) (by kernel_rfl) (by kernel_rfl) (fun _ _ _ h => h) (Or.inl ⟨by rfl, ?hy34⟩) (by assumption) ?rest34
        case hy34 => intro w' hSw; (try dsimp only at hSw); go_simp; try with_reducible rfl
        try simp only [Act.put, List.setIfInBounds_toArray, List.set_cons_zero, List.set_cons_succ]
        refine wpAnyH_take (i := 10) (v := ?v35) (ops_at rfl) (by kernel_rfl) (by kernel_rfl) (by kernel_rfl) (fun _ _ _ h => h) (Or.inl ⟨by rfl, ?hy35⟩) (by assumption) ?rest35
        case hy35 => intro w' hSw; (try dsimp only at hSw); go_simp; try with_reducible rfl
        try simp only [Act.put, List.setIfInBounds_toArray, List.set_cons_zero, List.set_cons_succ]
        refine wpAnyH_ready (rs := [11]) (by kernel_rfl) (by simp) ?_
        refine AllReadyH.cons (ops_at rfl) (fun K hK => ?_) AllReadyH.nil
        go_simp
        refine (hwrite S7.drew 2 rfl q.at_ q.a q.b q.n q.c _ rfl HX.out.len (by omega) (by show W.length ≤ _; omega) HX.out.nil (by exact S7.drew.old HX.out.at_)).mono ?_
        rintro e w8 ⟨rfl, S8⟩
        refine hK.out _ _ (by exact HEl.out _ S8.fin) (fun hHeld => ?_)
        clear hK K
        try simp only [Act.put, List.setIfInBounds_toArray, List.set_cons_zero, List.set_cons_succ]
        refine wpAnyH_done (by kernel_rfl) ?_ _
        go_wp2
        go_roundw
        case rel => exact ⟨k + 1, x, wW x W q.at_ q.b, s, al, cl, by omega, rfl, by go_num, Nat.le_trans (wW_len _ _ _ _) (by omega), by omega, St.conv S8 (by simp only [HW.out]; rfl)⟩
        case measure => simp [intOf]; omega
      · have g0 : (q.kind != 0) = true := by simpa using hq
        clear hq
        have hY : (⟨x, W, 0⟩ : DSt).crash (dWaits W) = ⟨dDone x (dWaits W) W, [], 0⟩ := rfl
        have HFit := hid (Sk.disk 0 rfl)
        have HDW := hid (dWaits_le (m := 65536) (ws := W) (fun y hy => Nat.le_trans ((Sk.disk 0 rfl).1 y hy) (Sk.disk 0 rfl).2.2.1))
        clear hY
        go_wp2_with fail
        refine (hsync Sk 0 rfl (by show W.length ≤ _; omega) (by show s < _; omega)).mono ?_
        rintro e w6 ⟨rfl, S6⟩
        go_wp2_with fail
        refine (hwaits S6 1 rfl (by show W.length ≤ _; omega) (dWaits W : Int) rfl).mono ?_
        rintro e w7 ⟨rfl, S7, -⟩
        have hdw : dWaits W ≤ 1000000 * 65536 := Nat.le_trans HDW.out (Nat.mul_le_mul_right _ (by omega))
        go_wp2_with fail
        refine (hcrash S7 1 rfl (dWaits W : Int) (by omega) (by omega) (by show W.length ≤ _; omega)).mono ?_
        rintro e w8 ⟨rfl, S8⟩
        clear hdw
        go_wp2_with fail
        refine (hsync S8 2 rfl (by show W.length ≤ _; omega) (by show s < _; omega)).mono ?_
        rintro e w9 ⟨rfl, S9⟩
        have HY : Hid (∃ y, dDone x (dWaits W) W = y ∧ y.length = n) := ⟨_, rfl, by rw [dDone_len _ _ _ HFit.out.1]; exact (S9.slA 3 rfl).1⟩
        obtain ⟨y, hy, hyn⟩ := HY.out
        have S9' : St w w9 [diskT pa ⟨dDone x (dWaits W) W, [], s + 1⟩, diskT pb ⟨dDone x (dWaits W) W, [], 0⟩, diskT pc ⟨dDone x (dWaits W) W, [], s + 1⟩, bytesT (.slice al n cl) x] := S9
        rw [hy] at S9'
        have HYN := hid hyn
        clear hy hyn HY
        go_wp2_with fail
        refine (hbytes S9' 0 rfl (by simp) n HYN.out).mono ?_
        rintro e w10 ⟨a10, c10, rfl, S10, -⟩
        go_wp2_with fail
        refine (hcrash S10 0 rfl keep hk0 hk1 (by simp)).mono ?_
        rintro e w11 ⟨rfl, S11⟩
        have S11' : St w w11 [diskT pa ⟨y, [], s + 1⟩, diskT pb ⟨y, [], 0⟩, diskT pc ⟨y, [], s + 1⟩, bytesT (.slice al n cl) x, bytesT (.slice a10 n c10) y] := S11
        go_wp2_with fail
        refine (hbytes S11' 0 rfl (by simp) n HYN.out).mono ?_
        rintro e w12 ⟨a12, c12, rfl, S12, -⟩
        go_wp2_with fail
        refine (hcmp S12 true _ _ y y n n _ _ (by simp) HYN.out HYN.out (by unfold maxLen; omega) (by unfold maxLen; omega) (by exact S12.at 5 rfl) (by exact S12.at 4 rfl)).mono ?_
        rintro e w13 ⟨rfl, S13, -⟩
        go_wp2_with fail
        refine (hbytes S13 1 rfl (by simp) n HYN.out).mono ?_
        rintro e w14 ⟨a14, c14, rfl, S14, -⟩
        go_wp2_with fail
        refine (hcmp S14 true _ _ y y n n _ _ (by simp) HYN.out HYN.out (by unfold maxLen; omega) (by unfold maxLen; omega) (by exact S14.at 6 rfl) (by exact S14.at 4 rfl)).mono ?_
        rintro e w15 ⟨rfl, S15, -⟩
        go_wp2
        go_roundw
        case rel => exact ⟨k + 1, y, [], s + 1, a10, c10, by omega, rfl, by go_num, Nat.zero_le _, by omega, ((((S15.front 4 rfl).front 3 rfl).front 3 rfl).front 3 rfl).take 4⟩
        case measure => simp [intOf]; omega
    · have HFit := hid (Sk.disk 0 rfl)
      have HXN := hid (Sk.slA 3 rfl).1
      have HD := hid (dDone_none W x 0 (by omega))
      have HB : Hid ((⟨x, W, s⟩ : DSt).bytes.length = n ∧ (⟨x, W, 0⟩ : DSt).bytes.length = n) := ⟨by rw [(Sk.disk 0 rfl).2.2.2]; exact HXN.out, by rw [(Sk.disk 1 rfl).2.2.2]; exact HXN.out⟩
      go_wp2_with fail
      refine (hcrash Sk 2 rfl 0 (by omega) (by omega) (by show W.length ≤ _; omega)).mono ?_
      rintro e w6 ⟨rfl, S6⟩
      have S6' : St w w6 [diskT pa ⟨x, W, s⟩, diskT pb ⟨x, W, 0⟩, diskT pc ⟨dDone x 0 W, [], s⟩, bytesT (.slice al n cl) x] := S6
      rw [HD.out] at S6'
      go_wp2_with fail
      refine (hbytes S6' 2 rfl (by simp) n HXN.out).mono ?_
      rintro e w7 ⟨a7, c7, rfl, S7, -⟩
      go_wp2_with fail
      refine (hcmp S7 true _ _ x x n n _ _ (by simp) HXN.out HXN.out (by unfold maxLen; omega) (by unfold maxLen; omega) (by exact S7.at 4 rfl) (by exact S7.at 3 rfl)).mono ?_
      rintro e w8 ⟨rfl, S8, -⟩
      go_wp2_with fail
      refine (hbytes S8 0 rfl (by show W.length ≤ _; omega) n HB.out.1).mono ?_
      rintro e w9 ⟨a9, c9, rfl, S9, -⟩
      go_wp2_with fail
      refine (hbytes S9 1 rfl (by show W.length ≤ _; omega) n HB.out.2).mono ?_
      rintro e w10 ⟨a10, c10, rfl, S10, -⟩
      go_wp2_with fail
      refine (hcmp S10 true _ _ (⟨x, W, s⟩ : DSt).bytes (⟨x, W, 0⟩ : DSt).bytes n n _ _ (by rw [beq_iff_eq]; rfl) HB.out.1 HB.out.2 (by unfold maxLen; omega) (by unfold maxLen; omega) (by exact S10.at 5 rfl) (by exact S10.at 6 rfl)).mono ?_
      rintro e w11 ⟨rfl, S11, -⟩
      go_wp2
      go_ret
      exact ⟨rfl, S11.fin⟩

end Go.Proofs.Ytbdclgopdildmaa
