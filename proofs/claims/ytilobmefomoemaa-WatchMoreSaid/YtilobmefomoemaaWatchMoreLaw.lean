/- WatchMore: the law. -/
import Derived.Test.YtilobmefomoemaaWatchMore
import Derived.Test.YtilobmefomoemaaWatchConv
import Derived.Test.YtilobmefomoemaaStoresAct
import Derived.Test.YtilobmefomoemaaRightB4
namespace Go.Proofs.Ytilobmefomoemaa
set_option linter.unusedVariables false
set_option linter.unusedSimpArgs false
open Go.RowKit
def moreK (M : List AG) (k : Nat) : List AG := (M.take k).flatMap fun x => [x, aNew]
theorem moreK_len (M : List AG) : ∀ k, k ≤ M.length → (moreK M k).length = 2 * k
  | 0, _ => rfl
  | k + 1, h => by
    have ih := moreK_len M k (by omega)
    unfold moreK at ih ⊢
    rw [List.take_add_one, List.getElem?_eq_getElem (by omega), List.flatMap_append, List.length_append, ih]
    simp; omega
theorem moreK_step {M : List AG} {k : Nat} (h : k < M.length) : moreK M (k + 1) = moreK M k ++ [M[k], aNew] := by
  unfold moreK
  rw [List.take_add_one, List.getElem?_eq_getElem h, List.flatMap_append]
  rfl
def Quiet (s : STA) (X : List AG) : Prop := ∀ x ∈ X, hasA x = false ∧ x.term ≤ s.term
theorem Quiet.step {s : STA} {M : List AG} {k : Nat} (h0 : 0 ≤ s.term) (h : k < M.length) (hq : Quiet s (moreK M k)) (h1 : hasA M[k] = false) (h2 : M[k].term ≤ s.term) : Quiet s (moreK M (k + 1)) := by
  intro x hx
  rw [moreK_step h] at hx
  rcases List.mem_append.1 hx with hx | hx
  · exact hq x hx
  · simp only [List.mem_cons, List.not_mem_nil, or_false] at hx
    rcases hx with rfl | rfl
    · exact ⟨h1, h2⟩
    · exact ⟨by decide, h0⟩
theorem rightB_term {c : CF} {s : STA} (h : rightB c s = true) : 0 ≤ s.term := by
  unfold rightB at h
  simp only [Bool.and_eq_true] at h
  exact (inR_yes h.2.2.2.2.2.2.1).1
set_option maxRecDepth 10000 in
set_option maxHeartbeats 12800000 in
theorem watchMore_law (c : CF) (s : STA) (a : Option Addr) (L : List AG) (n cap : Nat) (ma : Option Addr) (M : List AG) (mn mc : Nat) (ta : Option Addr) (TL : List TAct) (tn tc : Nat) (w : World) (hs : s.At w) (hn : L.length = n) (hA : AtG eAG w a L) (hmn : M.length = mn) (hMA : AtG eAG w ma M) (htn : TL.length = tn) (htm : tn ≤ maxLen) (hT : AtG eTA w ta TL) (hok : ∀ x ∈ TL, x.Ok w) :
    Calls Try.prog 5 #[.agg #[.int .i64 c.nodes, .int .i64 c.queues, .int .i64 c.quota, .int .i64 c.wave, .int .i64 c.lease, .int .i64 c.retry, .int .i64 c.deadline, .int .i64 c.room, .int .i64 c.disk], .agg #[.slice s.na s.nn s.nc, .slice s.ja s.jn s.jc, .int .i64 s.goal, .int .i64 s.prior, .int .i64 s.mode, .int .i64 s.term], .slice a n cap, .slice ma mn mc, .slice ta tn tc] w fun e w' => e = .returned (.bool true) ∧ Below w.heap.size w w' := by
  have S1 : St w _ [cellsT w.heap.size 38 c.cs, cellsT (w.heap.size + 1) 25 s.cs] := ((St.start w).newAt 38 #[.int .i64 c.nodes, .int .i64 c.queues, .int .i64 c.quota, .int .i64 c.wave, .int .i64 c.lease, .int .i64 c.retry, .int .i64 c.deadline, .int .i64 c.room, .int .i64 c.disk] w.heap.size rfl).newAt 25 #[.slice s.na s.nn s.nc, .slice s.ja s.jn s.jc, .int .i64 s.goal, .int .i64 s.prior, .int .i64 s.mode, .int .i64 s.term] (w.heap.size + 1) (alloc_size _ _)
  have HS := hid hs
  have HN := hid hn
  have HA := hid hA
  have HMN := hid hmn
  have HMA := hid hMA
  have HTN := hid htn
  have HTM := hid htm
  have HT := hid hT
  have HOk := hid hok
  clear hs hn hA hmn hMA htn htm hT hok
  go_enter Try.func5, Try.ntmps5
  go_wp2_with fail
  generalize w.heap.size + 1 = bs at *
  generalize w.heap.size = bc at *
  generalize (w.alloc _).alloc _ = w1 at *
  refine (alive24_any _).mono ?_
  rintro e w2 ⟨rfl, hb2⟩
  have S2 := S1.grow hb2
  clear S1 hb2
  go_wp2_with fail
  refine (stores_any S2 500 ta TL tn tc HTN.out HTM.out HT.out HOk.out).mono ?_
  rintro e w3 ⟨g, h, t, q, ok, rfl, -, -, S3⟩
  clear S2
  cases ok
  · go_wp2
    go_ret
    exact ⟨rfl, S3.fin⟩
  obtain ⟨y0, y1, y2, y3, y4, y5⟩ := S3.sC 3 rfl
  obtain ⟨x0, x1, x2, x3, x4, x5, x6, x7, x8⟩ := S3.cfC 2 rfl
  go_wp2_with fail
  refine (bxRight _ c s (HS.out.all S3.fin)).mono ?_
  rintro e w4 ⟨rfl, hb4⟩
  have S4 : St w w4 [rstT h q, soT (.pointer (some ⟨g, 0, none⟩)) (some t), cellsT bc 38 c.cs, cellsT bs 25 s.cs] := (S3.grow hb4).soMk 1 rfl
  clear y0 y1 y2 y3 y4 y5 x0 x1 x2 x3 x4 x5 x6 x7 x8 S3 hb4
  obtain ⟨rb, hrb⟩ : ∃ rb, rightB c s = rb := ⟨_, rfl⟩
  rw [hrb]
  have HRB := hid hrb
  clear hrb
  cases rb
  · go_wp2
    go_ret
    exact ⟨rfl, S4.fin⟩
  have H0 := hid (rightB_term HRB.out)
  by_cases h20 : n ≤ 20
  case neg =>
    have g0 : decide (20 < (n : Int)) = true := decide_eq_true (by omega)
    have g0n : decide (20 < n) = true := decide_eq_true (by omega)
    go_wp2
    go_ret
    exact ⟨rfl, S4.fin⟩
  have g0 : decide (20 < (n : Int)) = false := decide_eq_false (by omega)
  have g0n : decide (20 < n) = false := decide_eq_false (by omega)
  by_cases hm20 : mn ≤ 20
  case neg =>
    have g1 : decide (20 < (mn : Int)) = true := decide_eq_true (by omega)
    have g1n : decide (20 < mn) = true := decide_eq_true (by omega)
    go_wp2
    go_ret
    exact ⟨rfl, S4.fin⟩
  have g1 : decide (20 < (mn : Int)) = false := decide_eq_false (by omega)
  have g1n : decide (20 < mn) = false := decide_eq_false (by omega)
  have S5 : St w w4 [ownT eAG (.slice none 0 0) [], rstT h q, soT (.pointer (some ⟨g, 0, none⟩)) (some t), cellsT bc 38 c.cs, cellsT bs 25 s.cs] := (S4.nilG eAG).rot
  clear S4
  go_wp2_with (at_builtin; refine wpList_app (by rfl) (.tmp 42) (.tmp 43) eAG.T eAG.T eAG.T rfl rfl _ _ rfl rfl (S5.appG eAGok 0 rfl a L n cap HN.out (HA.out.all eAGok S5.fin) n (by simp) (by show _ * 80 ≤ _; omega) (by unfold maxLen; omega)) ?_; rintro v5 w5 ⟨⟨a5, c5, rfl⟩, S6⟩)
  have S7 : St w w5 [rstT h q, soT (.pointer (some ⟨g, 0, none⟩)) (some t), ownT eAG (.slice a5 n c5) L, cellsT bc 38 c.cs, cellsT bs 25 s.cs] := (S6.front 2 rfl).front 2 rfl
  clear S6 S5
  clear g0 g0n g1 g1n
  go_wp2_with fail
  go_loopw [14, 15] (fun v i wr => ∃ (k N : Nat) (p : Option Addr) (cp : Nat), k ≤ mn ∧ N = n + 2 * k ∧ i = .int .i64 k ∧ v = .slice p N cp ∧ Quiet s (moreK M k) ∧ St w wr [rstT h q, soT (.pointer (some ⟨g, 0, none⟩)) (some t), ownT eAG (.slice p N cp) (L ++ moreK M k), cellsT bc 38 c.cs, cellsT bs 25 s.cs]) (fun _ i _ => mn - (intOf i).toNat)
  case atStart => exact ⟨0, n, a5, c5, Nat.zero_le _, rfl, rfl, rfl, fun x hx => (by cases hx), (by exact (by rw [show L ++ moreK M 0 = L by simp [moreK]]; exact S7))⟩
  case round =>
    obtain ⟨k, N, p, cp, hk, hN, rfl, rfl, hQ, Sk⟩ := hrel
    have HQ := hid hQ
    have HNk := hid hN
    have hN60 : N ≤ 60 := by omega
    clear S7 hQ
    by_cases hlt : k < mn
    case neg =>
      have g0 : decide ((k : Int) < (mn : Int)) = false := decide_eq_false (by omega)
      have g0n : decide (k < mn) = false := decide_eq_false (by omega)
      have HW : Hid (whyN s (L ++ moreK M k) (some t) true = whyN s L (some t) true) := whyN_more s L _ _ _ HQ.out
      have hll : (L ++ moreK M k).length = N := by rw [List.length_append, moreK_len M k (by rw [HMN.out]; omega), HN.out]; omega
      have HLL := hid hll
      clear hll hN
      go_wp2_with fail
      have keep : ∀ {w' : World} {l : List Thing}, St w w' (rstT h q :: soT (.pointer (some ⟨g, 0, none⟩)) (some t) :: ownT eAG (.slice p N cp) (L ++ moreK M k) :: cellsT bc 38 c.cs :: cellsT bs 25 s.cs :: l) → ((w'.cell? ⟨bs, 0, none⟩ = some (.slice s.na s.nn s.nc) ∧ w'.cell? ⟨bs, 1, none⟩ = some (.slice s.ja s.jn s.jc) ∧ w'.cell? ⟨bs, 2, none⟩ = some (.int .i64 s.goal) ∧ w'.cell? ⟨bs, 3, none⟩ = some (.int .i64 s.prior) ∧ w'.cell? ⟨bs, 4, none⟩ = some (.int .i64 s.mode) ∧ w'.cell? ⟨bs, 5, none⟩ = some (.int .i64 s.term)) ∧ (w'.cell? ⟨bc, 0, none⟩ = some (.int .i64 c.nodes) ∧ w'.cell? ⟨bc, 1, none⟩ = some (.int .i64 c.queues) ∧ w'.cell? ⟨bc, 2, none⟩ = some (.int .i64 c.quota) ∧ w'.cell? ⟨bc, 3, none⟩ = some (.int .i64 c.wave) ∧ w'.cell? ⟨bc, 4, none⟩ = some (.int .i64 c.lease) ∧ w'.cell? ⟨bc, 5, none⟩ = some (.int .i64 c.retry) ∧ w'.cell? ⟨bc, 6, none⟩ = some (.int .i64 c.deadline) ∧ w'.cell? ⟨bc, 7, none⟩ = some (.int .i64 c.room) ∧ w'.cell? ⟨bc, 8, none⟩ = some (.int .i64 c.disk))) := fun S => ⟨S.sC 4 rfl, S.cfC 3 rfl⟩
      refine wp_region_held_drew (S := (fun w' => ((w'.cell? ⟨bs, 0, none⟩ = some (.slice s.na s.nn s.nc) ∧ w'.cell? ⟨bs, 1, none⟩ = some (.slice s.ja s.jn s.jc) ∧ w'.cell? ⟨bs, 2, none⟩ = some (.int .i64 s.goal) ∧ w'.cell? ⟨bs, 3, none⟩ = some (.int .i64 s.prior) ∧ w'.cell? ⟨bs, 4, none⟩ = some (.int .i64 s.mode) ∧ w'.cell? ⟨bs, 5, none⟩ = some (.int .i64 s.term)) ∧ (w'.cell? ⟨bc, 0, none⟩ = some (.int .i64 c.nodes) ∧ w'.cell? ⟨bc, 1, none⟩ = some (.int .i64 c.queues) ∧ w'.cell? ⟨bc, 2, none⟩ = some (.int .i64 c.quota) ∧ w'.cell? ⟨bc, 3, none⟩ = some (.int .i64 c.wave) ∧ w'.cell? ⟨bc, 4, none⟩ = some (.int .i64 c.lease) ∧ w'.cell? ⟨bc, 5, none⟩ = some (.int .i64 c.retry) ∧ w'.cell? ⟨bc, 6, none⟩ = some (.int .i64 c.deadline) ∧ w'.cell? ⟨bc, 7, none⟩ = some (.int .i64 c.room) ∧ w'.cell? ⟨bc, 8, none⟩ = some (.int .i64 c.disk))))) (by kernel_rfl) (by exact keep Sk.drew) (fun hHeld => ?_)
      change wpAnyH _ _ _ _ _ 12 (Array.replicate 12 false) _ _
      refine wpAnyH_take (i := 0) (v := ?v1) (ops_at rfl) (by kernel_rfl) (by kernel_rfl) (by kernel_rfl) (fun _ _ _ h => h) (Or.inl ⟨by rfl, ?hy1⟩) (by assumption) ?rest1
      case hy1 => intro w' hSw; (try dsimp only at hSw); go_simp; try with_reducible rfl
      try simp only [Act.put, List.setIfInBounds_toArray, List.set_cons_zero, List.set_cons_succ]
      refine wpAnyH_take (i := 1) (v := ?v2) (ops_at rfl) (by kernel_rfl) (by kernel_rfl) (by kernel_rfl) (fun _ _ _ h => h) (Or.inl ⟨by rfl, ?hy2⟩) (by assumption) ?rest2
      case hy2 => intro w' hSw; (try dsimp only at hSw); go_simp; try with_reducible rfl
      try simp only [Act.put, List.setIfInBounds_toArray, List.set_cons_zero, List.set_cons_succ]
      refine wpAnyH_take (i := 2) (v := ?v3) (ops_at rfl) (by kernel_rfl) (by kernel_rfl) (by kernel_rfl) (fun _ _ _ h => h) (Or.inl ⟨by rfl, ?hy3⟩) (by assumption) ?rest3
      case hy3 => intro w' hSw; (try dsimp only at hSw); go_simp; try with_reducible rfl
      try simp only [Act.put, List.setIfInBounds_toArray, List.set_cons_zero, List.set_cons_succ]
      refine wpAnyH_take (i := 3) (v := ?v4) (ops_at rfl) (by kernel_rfl) (by kernel_rfl) (by kernel_rfl) (fun _ _ _ h => h) (Or.inl ⟨by rfl, ?hy4⟩) (by assumption) ?rest4
      case hy4 => intro w' hSw; (try dsimp only at hSw); go_simp; try with_reducible rfl
      try simp only [Act.put, List.setIfInBounds_toArray, List.set_cons_zero, List.set_cons_succ]
      refine wpAnyH_take (i := 5) (v := ?v5) (ops_at rfl) (by kernel_rfl) (by kernel_rfl) (by kernel_rfl) (fun _ _ _ h => h) (Or.inl ⟨by rfl, ?hy5⟩) (by assumption) ?rest5
      case hy5 => intro w' hSw; (try dsimp only at hSw); go_simp; try with_reducible rfl
      try simp only [Act.put, List.setIfInBounds_toArray, List.set_cons_zero, List.set_cons_succ]
      refine wpAnyH_take (i := 6) (v := ?v6) (ops_at rfl) (by kernel_rfl) (by kernel_rfl) (by kernel_rfl) (fun _ _ _ h => h) (Or.inl ⟨by rfl, ?hy6⟩) (by assumption) ?rest6
      case hy6 => intro w' hSw; (try dsimp only at hSw); go_simp; try with_reducible rfl
      try simp only [Act.put, List.setIfInBounds_toArray, List.set_cons_zero, List.set_cons_succ]
      refine wpAnyH_take (i := 7) (v := ?v7) (ops_at rfl) (by kernel_rfl) (by kernel_rfl) (by kernel_rfl) (fun _ _ _ h => h) (Or.inl ⟨by rfl, ?hy7⟩) (by assumption) ?rest7
      case hy7 => intro w' hSw; (try dsimp only at hSw); go_simp; try with_reducible rfl
      try simp only [Act.put, List.setIfInBounds_toArray, List.set_cons_zero, List.set_cons_succ]
      refine wpAnyH_take (i := 8) (v := ?v8) (ops_at rfl) (by kernel_rfl) (by kernel_rfl) (by kernel_rfl) (fun _ _ _ h => h) (Or.inl ⟨by rfl, ?hy8⟩) (by assumption) ?rest8
      case hy8 => intro w' hSw; (try dsimp only at hSw); go_simp; try with_reducible rfl
      try simp only [Act.put, List.setIfInBounds_toArray, List.set_cons_zero, List.set_cons_succ]
      refine wpAnyH_ready (rs := [4]) (by kernel_rfl) (by simp) ?_
      refine AllReadyH.cons (ops_at rfl) (fun K hK => ?_) AllReadyH.nil
      go_simp
      refine (wtWhy Sk.drew (k := 1) rfl c s p N cp (L ++ moreK M k) true (HS.out.all Sk.drew.fin) HLL.out (by omega) (Sk.drew.slG eAGok 2 rfl).2.2.2.2 (fun w' hb => by have H := bxRight w' c s (HS.out.all (Sk.drew.grow hb).fin); rw [HRB.out] at H; exact H)).mono ?_
      rintro e wa ⟨rfl, hba⟩
      rw [HW.out]
      have Sa := Sk.drew.grow hba
      refine hK.out _ _ (by exact keep Sa) (fun hHeld => ?_)
      clear hK K
      try simp only [Act.put, List.setIfInBounds_toArray, List.set_cons_zero, List.set_cons_succ]
      refine wpAnyH_ready (rs := [9]) (by kernel_rfl) (by simp) ?_
      refine AllReadyH.cons (ops_at rfl) (fun K hK => ?_) AllReadyH.nil
      go_simp
      refine (wtWhy Sa (k := 1) rfl c s a n cap L true (HS.out.all Sa.fin) HN.out (by omega) (HA.out.all eAGok Sa.fin) (fun w' hb => by have H := bxRight w' c s (HS.out.all (Sa.grow hb).fin); rw [HRB.out] at H; exact H)).mono ?_
      rintro e wb ⟨rfl, hbb⟩
      have Sb := Sa.grow hbb
      have q1 : (whyN s L (some t) true == whyN s L (some t) true) = true := by simp
      refine hK.out _ _ (by exact keep Sb) (fun hHeld => ?_)
      clear hK K
      try simp only [Act.put, List.setIfInBounds_toArray, List.set_cons_zero, List.set_cons_succ]
      refine wpAnyH_take (i := 10) (v := ?v11) (ops_at rfl) (by kernel_rfl) (by kernel_rfl) (by kernel_rfl) (fun _ _ _ h => h) (Or.inl ⟨by rfl, ?hy11⟩) (by assumption) ?rest11
      case hy11 => intro w' hSw; (try dsimp only at hSw); go_simp; try with_reducible rfl
      try simp only [Act.put, List.setIfInBounds_toArray, List.set_cons_zero, List.set_cons_succ]
      refine wpAnyH_take (i := 11) (v := ?v12) (ops_at rfl) (by kernel_rfl) (by kernel_rfl) (by kernel_rfl) (fun _ _ _ h => h) (Or.inl ⟨by rfl, ?hy12⟩) (by assumption) ?rest12
      case hy12 => intro w' hSw; (try dsimp only at hSw); go_simp; try with_reducible rfl
      try simp only [Act.put, List.setIfInBounds_toArray, List.set_cons_zero, List.set_cons_succ]
      refine wpAnyH_done (by kernel_rfl) ?_ _
      go_wp2
      go_ret
      exact ⟨rfl, Sb.fin⟩
    have g0 : decide ((k : Int) < (mn : Int)) = true := decide_eq_true (by omega)
    have g0n : decide (k < mn) = true := decide_eq_true (by omega)
    have hkl : k < M.length := by rw [HMN.out]; exact hlt
    have i0 := fun wx => idxAG ma mn mc (fun h => HMA.out.ok (by rw [HMN.out]; exact h)) k hlt wx
    have HX : Hid (∀ w' l, St w w' l → AgAt w' (adr ma (k * 10)) M[k]) := fun w' l S => (HMA.out.all eAGok S.fin).agAt hkl
    have HStep := hid (moreK_step hkl)
    have HQS := hid (fun h1 h2 => HQ.out.step H0.out hkl h1 h2)
    have hlk : (L ++ moreK M k).length + 2 = N + 2 := by rw [List.length_append, moreK_len M k (by omega), HN.out]; omega
    have HLk := hid hlk
    clear hlk hN
    generalize M[k] = x at *
    generalize adr ma (k * 10) = A at *
    have keep : ∀ {w' : World} {l : List Thing}, St w w' (rstT h q :: soT (.pointer (some ⟨g, 0, none⟩)) (some t) :: ownT eAG (.slice p N cp) (L ++ moreK M k) :: cellsT bc 38 c.cs :: cellsT bs 25 s.cs :: l) → ((w'.cell? A = some (.bool x.up) ∧ w'.cell? { block := A.block, off := A.off + 1 } = some (.int .i64 x.term) ∧ w'.cell? { block := A.block, off := A.off + 2 } = some (.int .i64 x.gen) ∧ w'.cell? { block := A.block, off := A.off + 3 } = some (.int .i64 x.mode) ∧ w'.cell? { block := A.block, off := A.off + 4 } = some (.int .i64 x.job) ∧ w'.cell? { block := A.block, off := A.off + 5 } = some (.int .i64 x.inc) ∧ w'.cell? { block := A.block, off := A.off + 6 } = some (.int .i64 x.version) ∧ w'.cell? { block := A.block, off := A.off + 7 } = some (.int .i64 x.lease) ∧ w'.cell? { block := A.block, off := A.off + 8 } = some (.int .i64 x.worked) ∧ w'.cell? { block := A.block, off := A.off + 9 } = some (.int .i64 x.to_)) ∧ (w'.cell? ⟨bs, 0, none⟩ = some (.slice s.na s.nn s.nc) ∧ w'.cell? ⟨bs, 1, none⟩ = some (.slice s.ja s.jn s.jc) ∧ w'.cell? ⟨bs, 2, none⟩ = some (.int .i64 s.goal) ∧ w'.cell? ⟨bs, 3, none⟩ = some (.int .i64 s.prior) ∧ w'.cell? ⟨bs, 4, none⟩ = some (.int .i64 s.mode) ∧ w'.cell? ⟨bs, 5, none⟩ = some (.int .i64 s.term))) := fun S => ⟨HX.out _ _ S, S.sC 4 rfl⟩
    go_wp2_with fail
    cases hhv : hasA x
    case true =>
      have HH := hid hhv
      clear hhv
      refine wp_region_held_drew (S := (fun w' => ((w'.cell? A = some (.bool x.up) ∧ w'.cell? { block := A.block, off := A.off + 1 } = some (.int .i64 x.term) ∧ w'.cell? { block := A.block, off := A.off + 2 } = some (.int .i64 x.gen) ∧ w'.cell? { block := A.block, off := A.off + 3 } = some (.int .i64 x.mode) ∧ w'.cell? { block := A.block, off := A.off + 4 } = some (.int .i64 x.job) ∧ w'.cell? { block := A.block, off := A.off + 5 } = some (.int .i64 x.inc) ∧ w'.cell? { block := A.block, off := A.off + 6 } = some (.int .i64 x.version) ∧ w'.cell? { block := A.block, off := A.off + 7 } = some (.int .i64 x.lease) ∧ w'.cell? { block := A.block, off := A.off + 8 } = some (.int .i64 x.worked) ∧ w'.cell? { block := A.block, off := A.off + 9 } = some (.int .i64 x.to_)) ∧ (w'.cell? ⟨bs, 0, none⟩ = some (.slice s.na s.nn s.nc) ∧ w'.cell? ⟨bs, 1, none⟩ = some (.slice s.ja s.jn s.jc) ∧ w'.cell? ⟨bs, 2, none⟩ = some (.int .i64 s.goal) ∧ w'.cell? ⟨bs, 3, none⟩ = some (.int .i64 s.prior) ∧ w'.cell? ⟨bs, 4, none⟩ = some (.int .i64 s.mode) ∧ w'.cell? ⟨bs, 5, none⟩ = some (.int .i64 s.term))))) (by kernel_rfl) (by exact keep Sk.drew) (fun hHeld => ?_)
      change wpAnyH _ _ _ _ _ 15 (Array.replicate 15 false) _ _
      refine wpAnyH_take (i := 0) (v := ?v13) (ops_at rfl) (by kernel_rfl) (by kernel_rfl) (by kernel_rfl) (fun _ _ _ h => h) (Or.inl ⟨by rfl, ?hy13⟩) (by assumption) ?rest13
      case hy13 => intro w' hSw; (try dsimp only at hSw); go_simp; try with_reducible rfl
      try simp only [Act.put, List.setIfInBounds_toArray, List.set_cons_zero, List.set_cons_succ]
      refine wpAnyH_take (i := 1) (v := ?v14) (ops_at rfl) (by kernel_rfl) (by kernel_rfl) (by kernel_rfl) (fun _ _ _ h => h) (Or.inl ⟨by rfl, ?hy14⟩) (by assumption) ?rest14
      case hy14 => intro w' hSw; (try dsimp only at hSw); go_simp; try with_reducible rfl
      try simp only [Act.put, List.setIfInBounds_toArray, List.set_cons_zero, List.set_cons_succ]
      refine wpAnyH_ready (rs := [2]) (by kernel_rfl) (by simp) ?_
      refine AllReadyH.cons (ops_at rfl) (fun K hK => ?_) AllReadyH.nil
      go_simp
      refine hK.out _ _ (by exact keep Sk.drew) (fun hHeld => ?_)
      clear hK K
      try simp only [Act.put, List.setIfInBounds_toArray, List.set_cons_zero, List.set_cons_succ]
      refine wpAnyH_take (i := 3) (v := ?v15) (ops_at rfl) (by kernel_rfl) (by kernel_rfl) (by kernel_rfl) (fun _ _ _ h => h) (Or.inl ⟨by rfl, ?hy15⟩) (by assumption) ?rest15
      case hy15 => intro w' hSw; (try dsimp only at hSw); go_simp; try with_reducible rfl
      try simp only [Act.put, List.setIfInBounds_toArray, List.set_cons_zero, List.set_cons_succ]
      refine wpAnyH_ready (rs := [4]) (by kernel_rfl) (by simp) ?_
      refine AllReadyH.cons (ops_at rfl) (fun K hK => ?_) AllReadyH.nil
      go_simp
      refine (wtHas x _).mono ?_
      rintro e w4 ⟨rfl, hb4⟩
      rw [HH.out]
      have S4 := Sk.drew.grow hb4
      refine hK.out _ _ (by exact keep S4) (fun hHeld => ?_)
      clear hK K
      try simp only [Act.put, List.setIfInBounds_toArray, List.set_cons_zero, List.set_cons_succ]
      refine wpAnyH_take (i := 5) (v := ?v17) (ops_at rfl) (by kernel_rfl) (by kernel_rfl) (by kernel_rfl) (fun _ _ _ h => h) (Or.inl ⟨by rfl, ?hy17⟩) (by assumption) ?rest17
      case hy17 => intro w' hSw; (try dsimp only at hSw); go_simp; try with_reducible rfl
      try simp only [Act.put, List.setIfInBounds_toArray, List.set_cons_zero, List.set_cons_succ]
      refine wpAnyH_take (i := 6) (v := undef) (ops_at rfl) (by kernel_rfl) (by kernel_rfl) (by kernel_rfl) (fun _ _ _ h => h) (Or.inr ⟨by rfl, rfl⟩) (by assumption) ?rest18
      try simp only [Act.put, List.setIfInBounds_toArray, List.set_cons_zero, List.set_cons_succ]
      refine wpAnyH_take (i := 7) (v := undef) (ops_at rfl) (by kernel_rfl) (by kernel_rfl) (by kernel_rfl) (fun _ _ _ h => h) (Or.inr ⟨by rfl, rfl⟩) (by assumption) ?rest19
      try simp only [Act.put, List.setIfInBounds_toArray, List.set_cons_zero, List.set_cons_succ]
      refine wpAnyH_take (i := 8) (v := undef) (ops_at rfl) (by kernel_rfl) (by kernel_rfl) (by kernel_rfl) (fun _ _ _ h => h) (Or.inr ⟨by rfl, rfl⟩) (by assumption) ?rest20
      try simp only [Act.put, List.setIfInBounds_toArray, List.set_cons_zero, List.set_cons_succ]
      refine wpAnyH_take (i := 9) (v := undef) (ops_at rfl) (by kernel_rfl) (by kernel_rfl) (by kernel_rfl) (fun _ _ _ h => h) (Or.inr ⟨by rfl, rfl⟩) (by assumption) ?rest21
      try simp only [Act.put, List.setIfInBounds_toArray, List.set_cons_zero, List.set_cons_succ]
      refine wpAnyH_take (i := 10) (v := undef) (ops_at rfl) (by kernel_rfl) (by kernel_rfl) (by kernel_rfl) (fun _ _ _ h => h) (Or.inr ⟨by rfl, rfl⟩) (by assumption) ?rest22
      try simp only [Act.put, List.setIfInBounds_toArray, List.set_cons_zero, List.set_cons_succ]
      refine wpAnyH_take (i := 11) (v := undef) (ops_at rfl) (by kernel_rfl) (by kernel_rfl) (by kernel_rfl) (fun _ _ _ h => h) (Or.inr ⟨by rfl, rfl⟩) (by assumption) ?rest23
      try simp only [Act.put, List.setIfInBounds_toArray, List.set_cons_zero, List.set_cons_succ]
      refine wpAnyH_take (i := 12) (v := undef) (ops_at rfl) (by kernel_rfl) (by kernel_rfl) (by kernel_rfl) (fun _ _ _ h => h) (Or.inr ⟨by rfl, rfl⟩) (by assumption) ?rest24
      try simp only [Act.put, List.setIfInBounds_toArray, List.set_cons_zero, List.set_cons_succ]
      refine wpAnyH_take (i := 13) (v := undef) (ops_at rfl) (by kernel_rfl) (by kernel_rfl) (by kernel_rfl) (fun _ _ _ h => h) (Or.inr ⟨by rfl, rfl⟩) (by assumption) ?rest25
      try simp only [Act.put, List.setIfInBounds_toArray, List.set_cons_zero, List.set_cons_succ]
      refine wpAnyH_take (i := 14) (v := ?v26) (ops_at rfl) (by kernel_rfl) (by kernel_rfl) (by kernel_rfl) (fun _ _ _ h => h) (Or.inl ⟨by rfl, ?hy26⟩) (by assumption) ?rest26
      case hy26 => intro w' hSw; (try dsimp only at hSw); go_simp; try with_reducible rfl
      try simp only [Act.put, List.setIfInBounds_toArray, List.set_cons_zero, List.set_cons_succ]
      refine wpAnyH_done (by kernel_rfl) ?_ _
      go_wp2
      go_ret
      exact ⟨rfl, S4.fin⟩
    have HH := hid hhv
    clear hhv
    cases ht : decide (s.term < x.term)
    case true =>
      refine wp_region_held_drew (S := (fun w' => ((w'.cell? A = some (.bool x.up) ∧ w'.cell? { block := A.block, off := A.off + 1 } = some (.int .i64 x.term) ∧ w'.cell? { block := A.block, off := A.off + 2 } = some (.int .i64 x.gen) ∧ w'.cell? { block := A.block, off := A.off + 3 } = some (.int .i64 x.mode) ∧ w'.cell? { block := A.block, off := A.off + 4 } = some (.int .i64 x.job) ∧ w'.cell? { block := A.block, off := A.off + 5 } = some (.int .i64 x.inc) ∧ w'.cell? { block := A.block, off := A.off + 6 } = some (.int .i64 x.version) ∧ w'.cell? { block := A.block, off := A.off + 7 } = some (.int .i64 x.lease) ∧ w'.cell? { block := A.block, off := A.off + 8 } = some (.int .i64 x.worked) ∧ w'.cell? { block := A.block, off := A.off + 9 } = some (.int .i64 x.to_)) ∧ (w'.cell? ⟨bs, 0, none⟩ = some (.slice s.na s.nn s.nc) ∧ w'.cell? ⟨bs, 1, none⟩ = some (.slice s.ja s.jn s.jc) ∧ w'.cell? ⟨bs, 2, none⟩ = some (.int .i64 s.goal) ∧ w'.cell? ⟨bs, 3, none⟩ = some (.int .i64 s.prior) ∧ w'.cell? ⟨bs, 4, none⟩ = some (.int .i64 s.mode) ∧ w'.cell? ⟨bs, 5, none⟩ = some (.int .i64 s.term))))) (by kernel_rfl) (by exact keep Sk.drew) (fun hHeld => ?_)
      change wpAnyH _ _ _ _ _ 15 (Array.replicate 15 false) _ _
      refine wpAnyH_take (i := 0) (v := ?v27) (ops_at rfl) (by kernel_rfl) (by kernel_rfl) (by kernel_rfl) (fun _ _ _ h => h) (Or.inl ⟨by rfl, ?hy27⟩) (by assumption) ?rest27
      case hy27 => intro w' hSw; (try dsimp only at hSw); go_simp; try with_reducible rfl
      try simp only [Act.put, List.setIfInBounds_toArray, List.set_cons_zero, List.set_cons_succ]
      refine wpAnyH_take (i := 1) (v := ?v28) (ops_at rfl) (by kernel_rfl) (by kernel_rfl) (by kernel_rfl) (fun _ _ _ h => h) (Or.inl ⟨by rfl, ?hy28⟩) (by assumption) ?rest28
      case hy28 => intro w' hSw; (try dsimp only at hSw); go_simp; try with_reducible rfl
      try simp only [Act.put, List.setIfInBounds_toArray, List.set_cons_zero, List.set_cons_succ]
      refine wpAnyH_ready (rs := [2]) (by kernel_rfl) (by simp) ?_
      refine AllReadyH.cons (ops_at rfl) (fun K hK => ?_) AllReadyH.nil
      go_simp
      refine hK.out _ _ (by exact keep Sk.drew) (fun hHeld => ?_)
      clear hK K
      try simp only [Act.put, List.setIfInBounds_toArray, List.set_cons_zero, List.set_cons_succ]
      refine wpAnyH_take (i := 3) (v := ?v29) (ops_at rfl) (by kernel_rfl) (by kernel_rfl) (by kernel_rfl) (fun _ _ _ h => h) (Or.inl ⟨by rfl, ?hy29⟩) (by assumption) ?rest29
      case hy29 => intro w' hSw; (try dsimp only at hSw); go_simp; try with_reducible rfl
      try simp only [Act.put, List.setIfInBounds_toArray, List.set_cons_zero, List.set_cons_succ]
      refine wpAnyH_ready (rs := [4]) (by kernel_rfl) (by simp) ?_
      refine AllReadyH.cons (ops_at rfl) (fun K hK => ?_) AllReadyH.nil
      go_simp
      refine (wtHas x _).mono ?_
      rintro e w4 ⟨rfl, hb4⟩
      rw [HH.out]
      have S4 := Sk.drew.grow hb4
      refine hK.out _ _ (by exact keep S4) (fun hHeld => ?_)
      clear hK K
      try simp only [Act.put, List.setIfInBounds_toArray, List.set_cons_zero, List.set_cons_succ]
      refine wpAnyH_take (i := 5) (v := ?v31) (ops_at rfl) (by kernel_rfl) (by kernel_rfl) (by kernel_rfl) (fun _ _ _ h => h) (Or.inl ⟨by rfl, ?hy31⟩) (by assumption) ?rest31
      case hy31 => intro w' hSw; (try dsimp only at hSw); go_simp; try with_reducible rfl
      try simp only [Act.put, List.setIfInBounds_toArray, List.set_cons_zero, List.set_cons_succ]
      refine wpAnyH_take (i := 6) (v := ?v32) (ops_at rfl) (by kernel_rfl) (by kernel_rfl) (by kernel_rfl) (fun _ _ _ h => h) (Or.inl ⟨by rfl, ?hy32⟩) (by assumption) ?rest32
      case hy32 => intro w' hSw; (try dsimp only at hSw); go_simp; try with_reducible rfl
      try simp only [Act.put, List.setIfInBounds_toArray, List.set_cons_zero, List.set_cons_succ]
      refine wpAnyH_take (i := 7) (v := ?v33) (ops_at rfl) (by kernel_rfl) (by kernel_rfl) (by kernel_rfl) (fun _ _ _ h => h) (Or.inl ⟨by rfl, ?hy33⟩) (by assumption) ?rest33
      case hy33 => intro w' hSw; (try dsimp only at hSw); go_simp; try with_reducible rfl
      try simp only [Act.put, List.setIfInBounds_toArray, List.set_cons_zero, List.set_cons_succ]
      refine wpAnyH_take (i := 11) (v := ?v34) (ops_at rfl) (by kernel_rfl) (by kernel_rfl) (by kernel_rfl) (fun _ _ _ h => h) (Or.inl ⟨by rfl, ?hy34⟩) (by assumption) ?rest34
      case hy34 => intro w' hSw; (try dsimp only at hSw); go_simp; try with_reducible rfl
      try simp only [Act.put, List.setIfInBounds_toArray, List.set_cons_zero, List.set_cons_succ]
      refine wpAnyH_take (i := 12) (v := ?v35) (ops_at rfl) (by kernel_rfl) (by kernel_rfl) (by kernel_rfl) (fun _ _ _ h => h) (Or.inl ⟨by rfl, ?hy35⟩) (by assumption) ?rest35
      case hy35 => intro w' hSw; (try dsimp only at hSw); go_simp; try with_reducible rfl
      try simp only [Act.put, List.setIfInBounds_toArray, List.set_cons_zero, List.set_cons_succ]
      refine wpAnyH_ready (rs := [8]) (by kernel_rfl) (by simp) ?_
      refine AllReadyH.cons (ops_at rfl) (fun K hK => ?_) AllReadyH.nil
      go_simp
      refine hK.out _ _ (by exact keep S4) (fun hHeld => ?_)
      clear hK K
      try simp only [Act.put, List.setIfInBounds_toArray, List.set_cons_zero, List.set_cons_succ]
      refine wpAnyH_take (i := 9) (v := ?v36) (ops_at rfl) (by kernel_rfl) (by kernel_rfl) (by kernel_rfl) (fun _ _ _ h => h) (Or.inl ⟨by rfl, ?hy36⟩) (by assumption) ?rest36
      case hy36 => intro w' hSw; (try dsimp only at hSw); go_simp; try with_reducible rfl
      try simp only [Act.put, List.setIfInBounds_toArray, List.set_cons_zero, List.set_cons_succ]
      refine wpAnyH_take (i := 10) (v := ?v37) (ops_at rfl) (by kernel_rfl) (by kernel_rfl) (by kernel_rfl) (fun _ _ _ h => h) (Or.inl ⟨by rfl, ?hy37⟩) (by assumption) ?rest37
      case hy37 => intro w' hSw; (try dsimp only at hSw); go_simp; try with_reducible rfl
      try simp only [Act.put, List.setIfInBounds_toArray, List.set_cons_zero, List.set_cons_succ]
      refine wpAnyH_take (i := 13) (v := ?v38) (ops_at rfl) (by kernel_rfl) (by kernel_rfl) (by kernel_rfl) (fun _ _ _ h => h) (Or.inl ⟨by rfl, ?hy38⟩) (by assumption) ?rest38
      case hy38 => intro w' hSw; (try dsimp only at hSw); go_simp; try with_reducible rfl
      try simp only [Act.put, List.setIfInBounds_toArray, List.set_cons_zero, List.set_cons_succ]
      refine wpAnyH_take (i := 14) (v := ?v39) (ops_at rfl) (by kernel_rfl) (by kernel_rfl) (by kernel_rfl) (fun _ _ _ h => h) (Or.inl ⟨by rfl, ?hy39⟩) (by assumption) ?rest39
      case hy39 => intro w' hSw; (try dsimp only at hSw); go_simp; try with_reducible rfl
      try simp only [Act.put, List.setIfInBounds_toArray, List.set_cons_zero, List.set_cons_succ]
      refine wpAnyH_done (by kernel_rfl) ?_ _
      go_wp2
      go_ret
      exact ⟨rfl, S4.fin⟩
    have HQ1 := hid (HQS.out HH.out (by simpa using ht))
    clear HQS
    refine wp_region_held_drew (S := (fun w' => ((w'.cell? A = some (.bool x.up) ∧ w'.cell? { block := A.block, off := A.off + 1 } = some (.int .i64 x.term) ∧ w'.cell? { block := A.block, off := A.off + 2 } = some (.int .i64 x.gen) ∧ w'.cell? { block := A.block, off := A.off + 3 } = some (.int .i64 x.mode) ∧ w'.cell? { block := A.block, off := A.off + 4 } = some (.int .i64 x.job) ∧ w'.cell? { block := A.block, off := A.off + 5 } = some (.int .i64 x.inc) ∧ w'.cell? { block := A.block, off := A.off + 6 } = some (.int .i64 x.version) ∧ w'.cell? { block := A.block, off := A.off + 7 } = some (.int .i64 x.lease) ∧ w'.cell? { block := A.block, off := A.off + 8 } = some (.int .i64 x.worked) ∧ w'.cell? { block := A.block, off := A.off + 9 } = some (.int .i64 x.to_)) ∧ (w'.cell? ⟨bs, 0, none⟩ = some (.slice s.na s.nn s.nc) ∧ w'.cell? ⟨bs, 1, none⟩ = some (.slice s.ja s.jn s.jc) ∧ w'.cell? ⟨bs, 2, none⟩ = some (.int .i64 s.goal) ∧ w'.cell? ⟨bs, 3, none⟩ = some (.int .i64 s.prior) ∧ w'.cell? ⟨bs, 4, none⟩ = some (.int .i64 s.mode) ∧ w'.cell? ⟨bs, 5, none⟩ = some (.int .i64 s.term))))) (by kernel_rfl) (by exact keep Sk.drew) (fun hHeld => ?_)
    change wpAnyH _ _ _ _ _ 15 (Array.replicate 15 false) _ _
    refine wpAnyH_take (i := 0) (v := ?v40) (ops_at rfl) (by kernel_rfl) (by kernel_rfl) (by kernel_rfl) (fun _ _ _ h => h) (Or.inl ⟨by rfl, ?hy40⟩) (by assumption) ?rest40
    case hy40 => intro w' hSw; (try dsimp only at hSw); go_simp; try with_reducible rfl
    try simp only [Act.put, List.setIfInBounds_toArray, List.set_cons_zero, List.set_cons_succ]
    refine wpAnyH_take (i := 1) (v := ?v41) (ops_at rfl) (by kernel_rfl) (by kernel_rfl) (by kernel_rfl) (fun _ _ _ h => h) (Or.inl ⟨by rfl, ?hy41⟩) (by assumption) ?rest41
    case hy41 => intro w' hSw; (try dsimp only at hSw); go_simp; try with_reducible rfl
    try simp only [Act.put, List.setIfInBounds_toArray, List.set_cons_zero, List.set_cons_succ]
    refine wpAnyH_ready (rs := [2]) (by kernel_rfl) (by simp) ?_
    refine AllReadyH.cons (ops_at rfl) (fun K hK => ?_) AllReadyH.nil
    go_simp
    refine hK.out _ _ (by exact keep Sk.drew) (fun hHeld => ?_)
    clear hK K
    try simp only [Act.put, List.setIfInBounds_toArray, List.set_cons_zero, List.set_cons_succ]
    refine wpAnyH_take (i := 3) (v := ?v42) (ops_at rfl) (by kernel_rfl) (by kernel_rfl) (by kernel_rfl) (fun _ _ _ h => h) (Or.inl ⟨by rfl, ?hy42⟩) (by assumption) ?rest42
    case hy42 => intro w' hSw; (try dsimp only at hSw); go_simp; try with_reducible rfl
    try simp only [Act.put, List.setIfInBounds_toArray, List.set_cons_zero, List.set_cons_succ]
    refine wpAnyH_ready (rs := [4]) (by kernel_rfl) (by simp) ?_
    refine AllReadyH.cons (ops_at rfl) (fun K hK => ?_) AllReadyH.nil
    go_simp
    refine (wtHas x _).mono ?_
    rintro e w4 ⟨rfl, hb4⟩
    rw [HH.out]
    have S4 := Sk.drew.grow hb4
    refine hK.out _ _ (by exact keep S4) (fun hHeld => ?_)
    clear hK K
    try simp only [Act.put, List.setIfInBounds_toArray, List.set_cons_zero, List.set_cons_succ]
    refine wpAnyH_take (i := 5) (v := ?v44) (ops_at rfl) (by kernel_rfl) (by kernel_rfl) (by kernel_rfl) (fun _ _ _ h => h) (Or.inl ⟨by rfl, ?hy44⟩) (by assumption) ?rest44
    case hy44 => intro w' hSw; (try dsimp only at hSw); go_simp; try with_reducible rfl
    try simp only [Act.put, List.setIfInBounds_toArray, List.set_cons_zero, List.set_cons_succ]
    refine wpAnyH_take (i := 6) (v := ?v45) (ops_at rfl) (by kernel_rfl) (by kernel_rfl) (by kernel_rfl) (fun _ _ _ h => h) (Or.inl ⟨by rfl, ?hy45⟩) (by assumption) ?rest45
    case hy45 => intro w' hSw; (try dsimp only at hSw); go_simp; try with_reducible rfl
    try simp only [Act.put, List.setIfInBounds_toArray, List.set_cons_zero, List.set_cons_succ]
    refine wpAnyH_take (i := 7) (v := ?v46) (ops_at rfl) (by kernel_rfl) (by kernel_rfl) (by kernel_rfl) (fun _ _ _ h => h) (Or.inl ⟨by rfl, ?hy46⟩) (by assumption) ?rest46
    case hy46 => intro w' hSw; (try dsimp only at hSw); go_simp; try with_reducible rfl
    try simp only [Act.put, List.setIfInBounds_toArray, List.set_cons_zero, List.set_cons_succ]
    refine wpAnyH_take (i := 11) (v := ?v47) (ops_at rfl) (by kernel_rfl) (by kernel_rfl) (by kernel_rfl) (fun _ _ _ h => h) (Or.inl ⟨by rfl, ?hy47⟩) (by assumption) ?rest47
    case hy47 => intro w' hSw; (try dsimp only at hSw); go_simp; try with_reducible rfl
    try simp only [Act.put, List.setIfInBounds_toArray, List.set_cons_zero, List.set_cons_succ]
    refine wpAnyH_take (i := 12) (v := ?v48) (ops_at rfl) (by kernel_rfl) (by kernel_rfl) (by kernel_rfl) (fun _ _ _ h => h) (Or.inl ⟨by rfl, ?hy48⟩) (by assumption) ?rest48
    case hy48 => intro w' hSw; (try dsimp only at hSw); go_simp; try with_reducible rfl
    try simp only [Act.put, List.setIfInBounds_toArray, List.set_cons_zero, List.set_cons_succ]
    refine wpAnyH_ready (rs := [8]) (by kernel_rfl) (by simp) ?_
    refine AllReadyH.cons (ops_at rfl) (fun K hK => ?_) AllReadyH.nil
    go_simp
    refine hK.out _ _ (by exact keep S4) (fun hHeld => ?_)
    clear hK K
    try simp only [Act.put, List.setIfInBounds_toArray, List.set_cons_zero, List.set_cons_succ]
    refine wpAnyH_take (i := 9) (v := ?v49) (ops_at rfl) (by kernel_rfl) (by kernel_rfl) (by kernel_rfl) (fun _ _ _ h => h) (Or.inl ⟨by rfl, ?hy49⟩) (by assumption) ?rest49
    case hy49 => intro w' hSw; (try dsimp only at hSw); go_simp; try with_reducible rfl
    try simp only [Act.put, List.setIfInBounds_toArray, List.set_cons_zero, List.set_cons_succ]
    refine wpAnyH_take (i := 10) (v := ?v50) (ops_at rfl) (by kernel_rfl) (by kernel_rfl) (by kernel_rfl) (fun _ _ _ h => h) (Or.inl ⟨by rfl, ?hy50⟩) (by assumption) ?rest50
    case hy50 => intro w' hSw; (try dsimp only at hSw); go_simp; try with_reducible rfl
    try simp only [Act.put, List.setIfInBounds_toArray, List.set_cons_zero, List.set_cons_succ]
    refine wpAnyH_take (i := 13) (v := ?v51) (ops_at rfl) (by kernel_rfl) (by kernel_rfl) (by kernel_rfl) (fun _ _ _ h => h) (Or.inl ⟨by rfl, ?hy51⟩) (by assumption) ?rest51
    case hy51 => intro w' hSw; (try dsimp only at hSw); go_simp; try with_reducible rfl
    try simp only [Act.put, List.setIfInBounds_toArray, List.set_cons_zero, List.set_cons_succ]
    refine wpAnyH_take (i := 14) (v := ?v52) (ops_at rfl) (by kernel_rfl) (by kernel_rfl) (by kernel_rfl) (fun _ _ _ h => h) (Or.inl ⟨by rfl, ?hy52⟩) (by assumption) ?rest52
    case hy52 => intro w' hSw; (try dsimp only at hSw); go_simp; try with_reducible rfl
    try simp only [Act.put, List.setIfInBounds_toArray, List.set_cons_zero, List.set_cons_succ]
    refine wpAnyH_done (by kernel_rfl) ?_ _
    clear Sk HH ht hb4
    go_wp2_with fail
    refine wp_region_held_drew (S := (fun w' => ((w'.cell? A = some (.bool x.up) ∧ w'.cell? { block := A.block, off := A.off + 1 } = some (.int .i64 x.term) ∧ w'.cell? { block := A.block, off := A.off + 2 } = some (.int .i64 x.gen) ∧ w'.cell? { block := A.block, off := A.off + 3 } = some (.int .i64 x.mode) ∧ w'.cell? { block := A.block, off := A.off + 4 } = some (.int .i64 x.job) ∧ w'.cell? { block := A.block, off := A.off + 5 } = some (.int .i64 x.inc) ∧ w'.cell? { block := A.block, off := A.off + 6 } = some (.int .i64 x.version) ∧ w'.cell? { block := A.block, off := A.off + 7 } = some (.int .i64 x.lease) ∧ w'.cell? { block := A.block, off := A.off + 8 } = some (.int .i64 x.worked) ∧ w'.cell? { block := A.block, off := A.off + 9 } = some (.int .i64 x.to_)) ∧ (w'.cell? ⟨bs, 0, none⟩ = some (.slice s.na s.nn s.nc) ∧ w'.cell? ⟨bs, 1, none⟩ = some (.slice s.ja s.jn s.jc) ∧ w'.cell? ⟨bs, 2, none⟩ = some (.int .i64 s.goal) ∧ w'.cell? ⟨bs, 3, none⟩ = some (.int .i64 s.prior) ∧ w'.cell? ⟨bs, 4, none⟩ = some (.int .i64 s.mode) ∧ w'.cell? ⟨bs, 5, none⟩ = some (.int .i64 s.term))))) (by kernel_rfl) (by exact keep S4.drew) (fun hHeld => ?_)
    change wpAnyH _ _ _ _ _ 9 (Array.replicate 9 false) _ _
    refine wpAnyH_take (i := 0) (v := ?v53) (ops_at rfl) (by kernel_rfl) (by kernel_rfl) (by kernel_rfl) (fun _ _ _ h => h) (Or.inl ⟨by rfl, ?hy53⟩) (by assumption) ?rest53
    case hy53 => intro w' hSw; (try dsimp only at hSw); go_simp; try with_reducible rfl
    try simp only [Act.put, List.setIfInBounds_toArray, List.set_cons_zero, List.set_cons_succ]
    refine wpAnyH_take (i := 1) (v := ?v54) (ops_at rfl) (by kernel_rfl) (by kernel_rfl) (by kernel_rfl) (fun _ _ _ h => h) (Or.inl ⟨by rfl, ?hy54⟩) (by assumption) ?rest54
    case hy54 => intro w' hSw; (try dsimp only at hSw); go_simp; try with_reducible rfl
    try simp only [Act.put, List.setIfInBounds_toArray, List.set_cons_zero, List.set_cons_succ]
    refine wpAnyH_take (i := 2) (v := ?v55) (ops_at rfl) (by kernel_rfl) (by kernel_rfl) (by kernel_rfl) (fun _ _ _ h => h) (Or.inl ⟨by rfl, ?hy55⟩) (by assumption) ?rest55
    case hy55 => intro w' hSw; (try dsimp only at hSw); go_simp; try with_reducible rfl
    try simp only [Act.put, List.setIfInBounds_toArray, List.set_cons_zero, List.set_cons_succ]
    refine wpAnyH_ready (rs := [3, 5]) (by kernel_rfl) (by simp) ?_
    refine AllReadyH.cons (ops_at rfl) (fun K hK => ?_) (AllReadyH.cons (ops_at rfl) (fun K hK => ?_) AllReadyH.nil)
    · go_simp
      refine hK.out _ _ (by exact keep S4.drew) (fun hHeld => ?_)
      clear hK K
      try simp only [Act.put, List.setIfInBounds_toArray, List.set_cons_zero, List.set_cons_succ]
      refine wpAnyH_take (i := 4) (v := ?v56) (ops_at rfl) (by kernel_rfl) (by kernel_rfl) (by kernel_rfl) (fun _ _ _ h => h) (Or.inl ⟨by rfl, ?hy56⟩) (by assumption) ?rest56
      case hy56 => intro w' hSw; (try dsimp only at hSw); go_simp; try with_reducible rfl
      try simp only [Act.put, List.setIfInBounds_toArray, List.set_cons_zero, List.set_cons_succ]
      refine wpAnyH_ready (rs := [5]) (by kernel_rfl) (by simp) ?_
      refine AllReadyH.cons (ops_at rfl) (fun K hK => ?_) AllReadyH.nil
      go_simp
      refine (agNew _).mono ?_
      rintro e w5 ⟨rfl, hb5⟩
      rw [show aNew.v = .agg #[.bool true, .int .i64 0, .int .i64 0, .int .i64 0, .int .i64 0, .int .i64 0, .int .i64 1, .int .i64 0, .int .i64 0, .int .i64 0] from rfl]
      have S5 := S4.drew.grow hb5
      refine hK.out _ _ (by exact keep S5) (fun hHeld => ?_)
      clear hK K
      try simp only [Act.put, List.setIfInBounds_toArray, List.set_cons_zero, List.set_cons_succ]
      refine wpAnyH_ready (rs := [6]) (by kernel_rfl) (by simp) ?_
      refine AllReadyH.cons (ops_at rfl) (fun K hK => ?_) AllReadyH.nil
      go_simp
      have S6 := newAtG S5 31 #[.bool x.up, .int .i64 x.term, .int .i64 x.gen, .int .i64 x.mode, .int .i64 x.job, .int .i64 x.inc, .int .i64 x.version, .int .i64 x.lease, .int .i64 x.worked, .int .i64 x.to_, .bool true, .int .i64 0, .int .i64 0, .int .i64 0, .int .i64 0, .int .i64 0, .int .i64 1, .int .i64 0, .int .i64 0, .int .i64 0] _ rfl
      obtain ⟨gB, hgB⟩ : ∃ gB, w5.heap.size = gB := ⟨_, rfl⟩
      obtain ⟨wB, hwB⟩ : ∃ wB, w5.alloc (.cells #[.bool x.up, .int .i64 x.term, .int .i64 x.gen, .int .i64 x.mode, .int .i64 x.job, .int .i64 x.inc, .int .i64 x.version, .int .i64 x.lease, .int .i64 x.worked, .int .i64 x.to_, .bool true, .int .i64 0, .int .i64 0, .int .i64 0, .int .i64 0, .int .i64 0, .int .i64 1, .int .i64 0, .int .i64 0, .int .i64 0] 31) = wB := ⟨_, rfl⟩
      rw [hgB, hwB] at S6
      rw [hgB, hwB]
      clear hgB hwB
      refine hK.out _ _ (by exact keep S6) (fun hHeld => ?_)
      clear hK K
      try simp only [Act.put, List.setIfInBounds_toArray, List.set_cons_zero, List.set_cons_succ]
      refine wpAnyH_ready (rs := [7]) (by kernel_rfl) (by simp) ?_
      refine AllReadyH.cons (ops_at rfl) (fun K hK => ?_) AllReadyH.nil
      refine step_app (by rfl) (.tmp 66) (.tmp 72) eAG.T eAG.T eAG.T rfl rfl _ _ rfl rfl (S6.appG eAGok 2 rfl (some ⟨gB, 0, none⟩) [x, aNew] 2 2 rfl (atTwo S6 5 rfl) (N + 2) HLk.out (by show _ * 80 ≤ _; omega) (by unfold maxLen; omega)) ?_
      rintro v9 w9 ⟨⟨a9, c9, rfl⟩, S8⟩
      have S9 : St w w9 [rstT h q, soT (.pointer (some ⟨g, 0, none⟩)) (some t), ownT eAG (.slice a9 (N + 2) c9) ((L ++ moreK M k) ++ [x, aNew]), cellsT bc 38 c.cs, cellsT bs 25 s.cs] := (S8.take 5)
      refine hK.out _ _ (by exact ⟨HX.out _ _ S9, S9.sC 4 rfl⟩) (fun hHeld => ?_)
      clear hK K
      try simp only [Act.put, List.setIfInBounds_toArray, List.set_cons_zero, List.set_cons_succ]
      refine wpAnyH_take (i := 8) (v := ?v60) (ops_at rfl) (by kernel_rfl) (by kernel_rfl) (by kernel_rfl) (fun _ _ _ h => h) (Or.inl ⟨by rfl, ?hy60⟩) (by assumption) ?rest60
      case hy60 => intro w' hSw; (try dsimp only at hSw); go_simp; try with_reducible rfl
      try simp only [Act.put, List.setIfInBounds_toArray, List.set_cons_zero, List.set_cons_succ]
      refine wpAnyH_done (by kernel_rfl) ?_ _
      clear keep
      go_wp2
      go_roundw
      case rel => exact ⟨k + 1, N + 2, a9, c9, by omega, by have := HNk.out; omega, by go_num, rfl, HQ1.out, by rw [HStep.out, ← List.append_assoc]; exact S9⟩
      case measure => simp [intOf]; omega
    · go_simp
      refine (agNew _).mono ?_
      rintro e w5 ⟨rfl, hb5⟩
      rw [show aNew.v = .agg #[.bool true, .int .i64 0, .int .i64 0, .int .i64 0, .int .i64 0, .int .i64 0, .int .i64 1, .int .i64 0, .int .i64 0, .int .i64 0] from rfl]
      have S5 := S4.drew.grow hb5
      refine hK.out _ _ (by exact keep S5) (fun hHeld => ?_)
      clear hK K
      try simp only [Act.put, List.setIfInBounds_toArray, List.set_cons_zero, List.set_cons_succ]
      refine wpAnyH_ready (rs := [3]) (by kernel_rfl) (by simp) ?_
      refine AllReadyH.cons (ops_at rfl) (fun K hK => ?_) AllReadyH.nil
      go_simp
      refine hK.out _ _ (by exact keep S5) (fun hHeld => ?_)
      clear hK K
      try simp only [Act.put, List.setIfInBounds_toArray, List.set_cons_zero, List.set_cons_succ]
      refine wpAnyH_take (i := 4) (v := ?v61) (ops_at rfl) (by kernel_rfl) (by kernel_rfl) (by kernel_rfl) (fun _ _ _ h => h) (Or.inl ⟨by rfl, ?hy61⟩) (by assumption) ?rest61
      case hy61 => intro w' hSw; (try dsimp only at hSw); go_simp; try with_reducible rfl
      try simp only [Act.put, List.setIfInBounds_toArray, List.set_cons_zero, List.set_cons_succ]
      refine wpAnyH_ready (rs := [6]) (by kernel_rfl) (by simp) ?_
      refine AllReadyH.cons (ops_at rfl) (fun K hK => ?_) AllReadyH.nil
      go_simp
      have S6 := newAtG S5 31 #[.bool x.up, .int .i64 x.term, .int .i64 x.gen, .int .i64 x.mode, .int .i64 x.job, .int .i64 x.inc, .int .i64 x.version, .int .i64 x.lease, .int .i64 x.worked, .int .i64 x.to_, .bool true, .int .i64 0, .int .i64 0, .int .i64 0, .int .i64 0, .int .i64 0, .int .i64 1, .int .i64 0, .int .i64 0, .int .i64 0] _ rfl
      obtain ⟨gB, hgB⟩ : ∃ gB, w5.heap.size = gB := ⟨_, rfl⟩
      obtain ⟨wB, hwB⟩ : ∃ wB, w5.alloc (.cells #[.bool x.up, .int .i64 x.term, .int .i64 x.gen, .int .i64 x.mode, .int .i64 x.job, .int .i64 x.inc, .int .i64 x.version, .int .i64 x.lease, .int .i64 x.worked, .int .i64 x.to_, .bool true, .int .i64 0, .int .i64 0, .int .i64 0, .int .i64 0, .int .i64 0, .int .i64 1, .int .i64 0, .int .i64 0, .int .i64 0] 31) = wB := ⟨_, rfl⟩
      rw [hgB, hwB] at S6
      rw [hgB, hwB]
      clear hgB hwB
      refine hK.out _ _ (by exact keep S6) (fun hHeld => ?_)
      clear hK K
      try simp only [Act.put, List.setIfInBounds_toArray, List.set_cons_zero, List.set_cons_succ]
      refine wpAnyH_ready (rs := [7]) (by kernel_rfl) (by simp) ?_
      refine AllReadyH.cons (ops_at rfl) (fun K hK => ?_) AllReadyH.nil
      refine step_app (by rfl) (.tmp 66) (.tmp 72) eAG.T eAG.T eAG.T rfl rfl _ _ rfl rfl (S6.appG eAGok 2 rfl (some ⟨gB, 0, none⟩) [x, aNew] 2 2 rfl (atTwo S6 5 rfl) (N + 2) HLk.out (by show _ * 80 ≤ _; omega) (by unfold maxLen; omega)) ?_
      rintro v9 w9 ⟨⟨a9, c9, rfl⟩, S8⟩
      have S9 : St w w9 [rstT h q, soT (.pointer (some ⟨g, 0, none⟩)) (some t), ownT eAG (.slice a9 (N + 2) c9) ((L ++ moreK M k) ++ [x, aNew]), cellsT bc 38 c.cs, cellsT bs 25 s.cs] := (S8.take 5)
      refine hK.out _ _ (by exact ⟨HX.out _ _ S9, S9.sC 4 rfl⟩) (fun hHeld => ?_)
      clear hK K
      try simp only [Act.put, List.setIfInBounds_toArray, List.set_cons_zero, List.set_cons_succ]
      refine wpAnyH_take (i := 8) (v := ?v64) (ops_at rfl) (by kernel_rfl) (by kernel_rfl) (by kernel_rfl) (fun _ _ _ h => h) (Or.inl ⟨by rfl, ?hy64⟩) (by assumption) ?rest64
      case hy64 => intro w' hSw; (try dsimp only at hSw); go_simp; try with_reducible rfl
      try simp only [Act.put, List.setIfInBounds_toArray, List.set_cons_zero, List.set_cons_succ]
      refine wpAnyH_done (by kernel_rfl) ?_ _
      clear keep
      go_wp2
      go_roundw
      case rel => exact ⟨k + 1, N + 2, a9, c9, by omega, by have := HNk.out; omega, by go_num, rfl, HQ1.out, by rw [HStep.out, ← List.append_assoc]; exact S9⟩
      case measure => simp [intOf]; omega
end Go.Proofs.Ytilobmefomoemaa
