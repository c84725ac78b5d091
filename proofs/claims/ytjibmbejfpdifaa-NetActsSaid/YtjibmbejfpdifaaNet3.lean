/- Messages: the document's Get. -/
import Derived.Test.YtjibmbejfpdifaaNet2
namespace Go.Proofs.Ytjibmbejfpdifaa
set_option linter.unusedVariables false
set_option linter.unusedSimpArgs false
open Go.RowKit

set_option maxRecDepth 10000 in
set_option maxHeartbeats 3200000 in
theorem rnetGet_any (a : Option Addr) (b : List UInt8) (n cap : Nat) (w : World) (hn : b.length = n) (hm : n ≤ 1000000) (hcap : n ≤ cap) (hA : At w a b) :
    Calls Try.prog 15 #[.slice a n cap] w fun e w' => GetMPost (rgetM b) e ∧ Below w.heap.size w w' := by
  have S0 := (St.start w).newCells 23 #[.int .i64 0, .int .i64 0, .int .i64 0, .int .i64 0, .int .i64 0, .int .i64 0, .int .i64 0, .int .i64 0, .int .i64 0, .int .i64 0, .int .i64 0]
  have S0' : St w (w.alloc (.cells #[.int .i64 0, .int .i64 0, .int .i64 0, .int .i64 0, .int .i64 0, .int .i64 0, .int .i64 0, .int .i64 0, .int .i64 0, .int .i64 0, .int .i64 0] 23)) [cellsT w.heap.size 23 Msg.zero.cs] := S0
  have HN := hid hn
  have HA := hid hA
  obtain ⟨q, hq⟩ : ∃ q, fGet b 0 = q := ⟨_, rfl⟩
  obtain ⟨O, hO⟩ : ∃ O, rgetM b = O := ⟨_, rfl⟩
  rw [hO]
  unfold rgetM at hO
  rw [hq] at hO
  have hpl : (fGet b (0 : Int)).1.length ≤ 4000 := by
    by_cases h : (fGet b ((0 : Nat) : Int)).2.2 = 1
    · exact (fGet_frame h).2.1
    · have h' : (fGet b (0 : Int)).2.2 ≠ 1 := h
      unfold fGet at h' ⊢
      split
      · simp
      split
      · simp
      · rename_i h1 h2
        rw [if_neg h1, if_neg h2] at h'
        unfold fNum at h' ⊢
        split
        · simp
        · rename_i mm x hx
          rw [hx] at h'
          simp only [] at h' ⊢
          unfold fBody at h' ⊢
          split
          · simp
          · rename_i h3
            rw [if_neg h3] at h'
            split
            · rename_i h4; rw [if_pos h4] at h'; exact absurd rfl h'
            · simp
  rw [hq] at hpl
  have HQ := hid hq
  have HO := hid hO
  clear hn hA hq hO S0
  obtain ⟨p, en, wh⟩ := q
  obtain ⟨k, hk⟩ : ∃ k, p.length = k := ⟨_, rfl⟩
  simp only [] at hpl HO
  rw [hk] at hpl
  have HK := hid hk
  clear hk
  have hfr := fun (w1 : World) (S1 : St w w1 [cellsT w.heap.size 23 Msg.zero.cs]) => rfrGet_any a b n cap 0 w1 HN.out (by omega) hcap (S1.old HA.out)
  have HFr := hid hfr
  clear hfr
  by_cases h1 : wh = 1
  case neg =>
    have g1 : (wh != 1) = true := by simpa using h1
    have HO2 : Hid (none = O) := by rw [Hid, ← HO.out, if_neg h1]
    clear h1
    go_enter Try.func15, Try.ntmps15
    go_wp2_with fail
    refine (HFr.out _ S0').mono ?_
    rintro e w1 ⟨⟨a1, c1, rfl, -⟩, hb1⟩
    rw [HQ.out]
    have S1 := S0'.grow hb1
    clear hb1
    have SZ : St w w1 (cellsT w.heap.size 23 Msg.zero.cs :: []) := S1
    obtain ⟨f0, f1, f2, f3, f4, f5, f6, f7, f8, f9, f10⟩ := SZ.msgFrozen 0 rfl
    obtain ⟨z0, z1, z2, z3, z4, z5, z6, z7, z8, z9, z10⟩ := SZ.msg 0 rfl
    go_wp2
    have SX := SZ.setMsg (m' := Msg.zero)
    refine bodyPost_ret (res_msg rfl _ _ w.heap.size #[.int .i64 0, .int .i64 0, .int .i64 0, .int .i64 0, .int .i64 0, .int .i64 0, .int .i64 0, .int .i64 0, .int .i64 0, .int .i64 0, .int .i64 0] rfl (by exact SX.heap 0 rfl) rfl) rfl ⟨?_, by exact SX.fin⟩
    rw [← HO2.out]
    rfl
  have HW := hid h1
  have g1 : (wh != 1) = false := by rw [h1]; rfl
  rw [if_pos h1] at HO
  clear h1
  have HGl := fun (w1 : World) (a1 : Option Addr) (c1 : Nat) (S1 : St w w1 [bytesT (.slice a1 k c1) p, cellsT w.heap.size 23 Msg.zero.cs]) => rgetList_any a1 p k c1 0 11 w1 HK.out (by omega) (S1.at 0 rfl)
  obtain ⟨R, hR⟩ : ∃ R, getList p 0 11 = R := ⟨_, rfl⟩
  rw [hR] at HGl HO
  have HG := hid HGl
  have HRl := hid hR
  clear HGl hR
  rcases R with _ | ⟨l, stop⟩
  · have HO2 : Hid (none = O) := HO.out
    go_enter Try.func15, Try.ntmps15
    go_wp2_with fail
    refine (HFr.out _ S0').mono ?_
    rintro e w1 ⟨⟨a1, c1, rfl, ho1⟩, hb1⟩
    rw [HQ.out] at ho1 ⊢
    simp only [] at ho1
    rw [HK.out] at ho1
    simp only [HK.out]
    have S1 : St w w1 [bytesT (.slice a1 k c1) p, cellsT w.heap.size 23 Msg.zero.cs] := (S0'.bytes ho1 hb1).rot
    clear ho1 hb1
    go_wp2_with fail
    refine (HG.out _ _ _ S1).mono ?_
    rintro e w2 ⟨h, hb2⟩
    have h' : e = .returned (.tuple #[.slice none 0 0, .int .i64 0, .bool false]) := h
    subst h'
    have SZ : St w w2 (cellsT w.heap.size 23 Msg.zero.cs :: []) := (S1.grow hb2).tail
    clear hb2 h
    obtain ⟨f0, f1, f2, f3, f4, f5, f6, f7, f8, f9, f10⟩ := SZ.msgFrozen 0 rfl
    obtain ⟨z0, z1, z2, z3, z4, z5, z6, z7, z8, z9, z10⟩ := SZ.msg 0 rfl
    go_wp2
    have SX := SZ.setMsg (m' := Msg.zero)
    refine bodyPost_ret (res_msg rfl _ _ w.heap.size #[.int .i64 0, .int .i64 0, .int .i64 0, .int .i64 0, .int .i64 0, .int .i64 0, .int .i64 0, .int .i64 0, .int .i64 0, .int .i64 0, .int .i64 0] rfl (by exact SX.heap 0 rfl) rfl) rfl ⟨?_, by exact SX.fin⟩
    rw [← HO2.out]
    rfl
  simp only [] at HO
  obtain ⟨ll, hll⟩ : ∃ ll, l.length = ll := ⟨_, rfl⟩
  rw [hll] at HO
  have HLl := hid hll
  clear hll
  by_cases h4 : ll = 11
  case neg =>
    have g4 : ((ll : Int) != 11) = true := by simp; omega
    have HO2 : Hid (none = O) := by rw [Hid, ← HO.out, if_neg (fun e => h4 e.1)]
    clear h4
    go_enter Try.func15, Try.ntmps15
    go_wp2_with fail
    refine (HFr.out _ S0').mono ?_
    rintro e w1 ⟨⟨a1, c1, rfl, ho1⟩, hb1⟩
    rw [HQ.out] at ho1 ⊢
    simp only [] at ho1
    rw [HK.out] at ho1
    simp only [HK.out]
    have S1 : St w w1 [bytesT (.slice a1 k c1) p, cellsT w.heap.size 23 Msg.zero.cs] := (S0'.bytes ho1 hb1).rot
    clear ho1 hb1
    go_wp2_with fail
    refine (HG.out _ _ _ S1).mono ?_
    rintro e w2 ⟨⟨v2, rfl, ho2⟩, hb2⟩
    obtain ⟨al, cl, rfl⟩ := ho2.written eIok HLl.out
    have S2 : St w w2 [cellsT w.heap.size 23 Msg.zero.cs, ownT eI (.slice al _ cl) _] := (S1.own ho2 hb2).tail
    clear ho2 hb2
    have SZ := S2
    obtain ⟨f0, f1, f2, f3, f4, f5, f6, f7, f8, f9, f10⟩ := SZ.msgFrozen 0 rfl
    obtain ⟨z0, z1, z2, z3, z4, z5, z6, z7, z8, z9, z10⟩ := SZ.msg 0 rfl
    go_wp2
    have SX := SZ.setMsg (m' := Msg.zero)
    refine bodyPost_ret (res_msg rfl _ _ w.heap.size #[.int .i64 0, .int .i64 0, .int .i64 0, .int .i64 0, .int .i64 0, .int .i64 0, .int .i64 0, .int .i64 0, .int .i64 0, .int .i64 0, .int .i64 0] rfl (by exact SX.heap 0 rfl) rfl) rfl ⟨?_, by exact SX.fin⟩
    rw [← HO2.out]
    rfl
  subst h4
  obtain ⟨m, hmm⟩ : ∃ m, Msg.of l = m := ⟨_, rfl⟩
  have hln : l = m.nums := by rw [← hmm, Msg.nums_of HLl.out]
  rw [hmm] at HO
  have HO3 : Hid ((if putM m = b then some m else none) = O) := by
    rw [Hid, ← HO.out]
    by_cases hr : putM m = b
    · rw [if_pos hr, if_pos ⟨rfl, hr⟩]
    · rw [if_neg hr, if_neg (fun e => hr e.2)]
  clear hmm HO
  subst hln
  have g4 : (((11 : Nat) : Int) != 11) = false := by simp
  go_enter Try.func15, Try.ntmps15
  go_wp2_with fail
  refine (HFr.out _ S0').mono ?_
  rintro e w1 ⟨⟨a1, c1, rfl, ho1⟩, hb1⟩
  rw [HQ.out] at ho1 ⊢
  simp only [] at ho1
  rw [HK.out] at ho1
  simp only [HK.out]
  have S1 : St w w1 [bytesT (.slice a1 k c1) p, cellsT w.heap.size 23 Msg.zero.cs] := (S0'.bytes ho1 hb1).rot
  clear ho1 hb1
  go_wp2_with fail
  refine (HG.out _ _ _ S1).mono ?_
  rintro e w2 ⟨⟨v2, rfl, ho2⟩, hb2⟩
  obtain ⟨al, cl, rfl⟩ := ho2.written eIok HLl.out
  have S2 : St w w2 [cellsT w.heap.size 23 Msg.zero.cs, ownT eI (.slice al _ cl) _] := (S1.own ho2 hb2).tail
  clear ho2 hb2
  have HI := hid (S2.slG eIok 1 rfl)
  have HCl : Hid (∀ w', St w w' [cellsT w.heap.size 23 Msg.zero.cs, ownT eI (.slice al 11 cl) m.nums] → w'.cell? (adr al 0) = some (.int .i64 m.node) ∧ w'.cell? (adr al 1) = some (.int .i64 m.kind) ∧ w'.cell? (adr al 2) = some (.int .i64 m.term) ∧ w'.cell? (adr al 3) = some (.int .i64 m.gen) ∧ w'.cell? (adr al 4) = some (.int .i64 m.job) ∧ w'.cell? (adr al 5) = some (.int .i64 m.inc) ∧ w'.cell? (adr al 6) = some (.int .i64 m.version) ∧ w'.cell? (adr al 7) = some (.int .i64 m.epoch) ∧ w'.cell? (adr al 8) = some (.int .i64 m.until_) ∧ w'.cell? (adr al 9) = some (.int .i64 m.mode) ∧ w'.cell? (adr al 10) = some (.int .i64 m.work)) := fun w' S' => (S'.slG eIok 1 rfl).2.2.2.2.msg
  have hsome : 0 < 11 → al.isSome = true := fun _ => HI.out.2.2.2.2.ok (by show 0 < 11; omega)
  have j0 := fun wx => idxI al 11 cl hsome 0 0 rfl (by omega) wx
  have j1 := fun wx => idxI al 11 cl hsome 1 1 rfl (by omega) wx
  have j2 := fun wx => idxI al 11 cl hsome 2 2 rfl (by omega) wx
  have j3 := fun wx => idxI al 11 cl hsome 3 3 rfl (by omega) wx
  have j4 := fun wx => idxI al 11 cl hsome 4 4 rfl (by omega) wx
  have j5 := fun wx => idxI al 11 cl hsome 5 5 rfl (by omega) wx
  have j6 := fun wx => idxI al 11 cl hsome 6 6 rfl (by omega) wx
  have j7 := fun wx => idxI al 11 cl hsome 7 7 rfl (by omega) wx
  have j8 := fun wx => idxI al 11 cl hsome 8 8 rfl (by omega) wx
  have j9 := fun wx => idxI al 11 cl hsome 9 9 rfl (by omega) wx
  have j10 := fun wx => idxI al 11 cl hsome 10 10 rfl (by omega) wx
  clear hsome
  go_wp2_with fail
  refine wp_region_held_drew (S := (fun w' => w'.cell? (adr al 0) = some (.int .i64 m.node) ∧ w'.cell? (adr al 1) = some (.int .i64 m.kind) ∧ w'.cell? (adr al 2) = some (.int .i64 m.term) ∧ w'.cell? (adr al 3) = some (.int .i64 m.gen) ∧ w'.cell? (adr al 4) = some (.int .i64 m.job) ∧ w'.cell? (adr al 5) = some (.int .i64 m.inc) ∧ w'.cell? (adr al 6) = some (.int .i64 m.version) ∧ w'.cell? (adr al 7) = some (.int .i64 m.epoch) ∧ w'.cell? (adr al 8) = some (.int .i64 m.until_) ∧ w'.cell? (adr al 9) = some (.int .i64 m.mode) ∧ w'.cell? (adr al 10) = some (.int .i64 m.work))) (by kernel_rfl) (by exact HCl.out _ S2.drew) (fun hHeld => ?_)
  change wpAnyH _ _ _ _ _ 36 (Array.replicate 36 false) _ _
  refine wpAnyH_take (i := 0) (v := ?v1) (ops_at rfl) (by kernel_rfl) (by kernel_rfl) (by kernel_rfl) (fun _ _ _ h => h) (Or.inl ⟨by rfl, ?hy1⟩) (by assumption) ?rest1
  case hy1 => intro w' hSw; (try dsimp only at hSw); go_simp; try with_reducible rfl
  try simp only [Act.put, List.setIfInBounds_toArray, List.set_cons_zero, List.set_cons_succ]
  refine wpAnyH_take (i := 1) (v := ?v2) (ops_at rfl) (by kernel_rfl) (by kernel_rfl) (by kernel_rfl) (fun _ _ _ h => h) (Or.inl ⟨by rfl, ?hy2⟩) (by assumption) ?rest2
  case hy2 => intro w' hSw; (try dsimp only at hSw); go_simp; try with_reducible rfl
  try simp only [Act.put, List.setIfInBounds_toArray, List.set_cons_zero, List.set_cons_succ]
  refine wpAnyH_take (i := 2) (v := ?v3) (ops_at rfl) (by kernel_rfl) (by kernel_rfl) (by kernel_rfl) (fun _ _ _ h => h) (Or.inl ⟨by rfl, ?hy3⟩) (by assumption) ?rest3
  case hy3 => intro w' hSw; (try dsimp only at hSw); go_simp; try with_reducible rfl
  try simp only [Act.put, List.setIfInBounds_toArray, List.set_cons_zero, List.set_cons_succ]
  refine wpAnyH_take (i := 3) (v := ?v4) (ops_at rfl) (by kernel_rfl) (by kernel_rfl) (by kernel_rfl) (fun _ _ _ h => h) (Or.inl ⟨by rfl, ?hy4⟩) (by assumption) ?rest4
  case hy4 => intro w' hSw; (try dsimp only at hSw); go_simp; try with_reducible rfl
  try simp only [Act.put, List.setIfInBounds_toArray, List.set_cons_zero, List.set_cons_succ]
  refine wpAnyH_take (i := 4) (v := ?v5) (ops_at rfl) (by kernel_rfl) (by kernel_rfl) (by kernel_rfl) (fun _ _ _ h => h) (Or.inl ⟨by rfl, ?hy5⟩) (by assumption) ?rest5
  case hy5 => intro w' hSw; (try dsimp only at hSw); go_simp; try with_reducible rfl
  try simp only [Act.put, List.setIfInBounds_toArray, List.set_cons_zero, List.set_cons_succ]
  refine wpAnyH_take (i := 5) (v := ?v6) (ops_at rfl) (by kernel_rfl) (by kernel_rfl) (by kernel_rfl) (fun _ _ _ h => h) (Or.inl ⟨by rfl, ?hy6⟩) (by assumption) ?rest6
  case hy6 => intro w' hSw; (try dsimp only at hSw); go_simp; try with_reducible rfl
  try simp only [Act.put, List.setIfInBounds_toArray, List.set_cons_zero, List.set_cons_succ]
  refine wpAnyH_take (i := 6) (v := ?v7) (ops_at rfl) (by kernel_rfl) (by kernel_rfl) (by kernel_rfl) (fun _ _ _ h => h) (Or.inl ⟨by rfl, ?hy7⟩) (by assumption) ?rest7
  case hy7 => intro w' hSw; (try dsimp only at hSw); go_simp; try with_reducible rfl
  try simp only [Act.put, List.setIfInBounds_toArray, List.set_cons_zero, List.set_cons_succ]
  refine wpAnyH_take (i := 7) (v := ?v8) (ops_at rfl) (by kernel_rfl) (by kernel_rfl) (by kernel_rfl) (fun _ _ _ h => h) (Or.inl ⟨by rfl, ?hy8⟩) (by assumption) ?rest8
  case hy8 => intro w' hSw; (try dsimp only at hSw); go_simp; try with_reducible rfl
  try simp only [Act.put, List.setIfInBounds_toArray, List.set_cons_zero, List.set_cons_succ]
  refine wpAnyH_take (i := 8) (v := ?v9) (ops_at rfl) (by kernel_rfl) (by kernel_rfl) (by kernel_rfl) (fun _ _ _ h => h) (Or.inl ⟨by rfl, ?hy9⟩) (by assumption) ?rest9
  case hy9 => intro w' hSw; (try dsimp only at hSw); go_simp; try with_reducible rfl
  try simp only [Act.put, List.setIfInBounds_toArray, List.set_cons_zero, List.set_cons_succ]
  refine wpAnyH_take (i := 9) (v := ?v10) (ops_at rfl) (by kernel_rfl) (by kernel_rfl) (by kernel_rfl) (fun _ _ _ h => h) (Or.inl ⟨by rfl, ?hy10⟩) (by assumption) ?rest10
  case hy10 => intro w' hSw; (try dsimp only at hSw); go_simp; try with_reducible rfl
  try simp only [Act.put, List.setIfInBounds_toArray, List.set_cons_zero, List.set_cons_succ]
  refine wpAnyH_take (i := 10) (v := ?v11) (ops_at rfl) (by kernel_rfl) (by kernel_rfl) (by kernel_rfl) (fun _ _ _ h => h) (Or.inl ⟨by rfl, ?hy11⟩) (by assumption) ?rest11
  case hy11 => intro w' hSw; (try dsimp only at hSw); go_simp; try with_reducible rfl
  try simp only [Act.put, List.setIfInBounds_toArray, List.set_cons_zero, List.set_cons_succ]
  refine wpAnyH_take (i := 11) (v := ?v12) (ops_at rfl) (by kernel_rfl) (by kernel_rfl) (by kernel_rfl) (fun _ _ _ h => h) (Or.inl ⟨by rfl, ?hy12⟩) (by assumption) ?rest12
  case hy12 => intro w' hSw; (try dsimp only at hSw); go_simp; try with_reducible rfl
  try simp only [Act.put, List.setIfInBounds_toArray, List.set_cons_zero, List.set_cons_succ]
  refine wpAnyH_take (i := 12) (v := ?v13) (ops_at rfl) (by kernel_rfl) (by kernel_rfl) (by kernel_rfl) (fun _ _ _ h => h) (Or.inl ⟨by rfl, ?hy13⟩) (by assumption) ?rest13
  case hy13 => intro w' hSw; (try dsimp only at hSw); go_simp; try with_reducible rfl
  try simp only [Act.put, List.setIfInBounds_toArray, List.set_cons_zero, List.set_cons_succ]
  refine wpAnyH_take (i := 13) (v := ?v14) (ops_at rfl) (by kernel_rfl) (by kernel_rfl) (by kernel_rfl) (fun _ _ _ h => h) (Or.inl ⟨by rfl, ?hy14⟩) (by assumption) ?rest14
  case hy14 => intro w' hSw; (try dsimp only at hSw); go_simp; try with_reducible rfl
  try simp only [Act.put, List.setIfInBounds_toArray, List.set_cons_zero, List.set_cons_succ]
  refine wpAnyH_take (i := 14) (v := ?v15) (ops_at rfl) (by kernel_rfl) (by kernel_rfl) (by kernel_rfl) (fun _ _ _ h => h) (Or.inl ⟨by rfl, ?hy15⟩) (by assumption) ?rest15
  case hy15 => intro w' hSw; (try dsimp only at hSw); go_simp; try with_reducible rfl
  try simp only [Act.put, List.setIfInBounds_toArray, List.set_cons_zero, List.set_cons_succ]
  refine wpAnyH_take (i := 15) (v := ?v16) (ops_at rfl) (by kernel_rfl) (by kernel_rfl) (by kernel_rfl) (fun _ _ _ h => h) (Or.inl ⟨by rfl, ?hy16⟩) (by assumption) ?rest16
  case hy16 => intro w' hSw; (try dsimp only at hSw); go_simp; try with_reducible rfl
  try simp only [Act.put, List.setIfInBounds_toArray, List.set_cons_zero, List.set_cons_succ]
  refine wpAnyH_take (i := 16) (v := ?v17) (ops_at rfl) (by kernel_rfl) (by kernel_rfl) (by kernel_rfl) (fun _ _ _ h => h) (Or.inl ⟨by rfl, ?hy17⟩) (by assumption) ?rest17
  case hy17 => intro w' hSw; (try dsimp only at hSw); go_simp; try with_reducible rfl
  try simp only [Act.put, List.setIfInBounds_toArray, List.set_cons_zero, List.set_cons_succ]
  refine wpAnyH_take (i := 17) (v := ?v18) (ops_at rfl) (by kernel_rfl) (by kernel_rfl) (by kernel_rfl) (fun _ _ _ h => h) (Or.inl ⟨by rfl, ?hy18⟩) (by assumption) ?rest18
  case hy18 => intro w' hSw; (try dsimp only at hSw); go_simp; try with_reducible rfl
  try simp only [Act.put, List.setIfInBounds_toArray, List.set_cons_zero, List.set_cons_succ]
  refine wpAnyH_take (i := 18) (v := ?v19) (ops_at rfl) (by kernel_rfl) (by kernel_rfl) (by kernel_rfl) (fun _ _ _ h => h) (Or.inl ⟨by rfl, ?hy19⟩) (by assumption) ?rest19
  case hy19 => intro w' hSw; (try dsimp only at hSw); go_simp; try with_reducible rfl
  try simp only [Act.put, List.setIfInBounds_toArray, List.set_cons_zero, List.set_cons_succ]
  refine wpAnyH_take (i := 19) (v := ?v20) (ops_at rfl) (by kernel_rfl) (by kernel_rfl) (by kernel_rfl) (fun _ _ _ h => h) (Or.inl ⟨by rfl, ?hy20⟩) (by assumption) ?rest20
  case hy20 => intro w' hSw; (try dsimp only at hSw); go_simp; try with_reducible rfl
  try simp only [Act.put, List.setIfInBounds_toArray, List.set_cons_zero, List.set_cons_succ]
  refine wpAnyH_take (i := 20) (v := ?v21) (ops_at rfl) (by kernel_rfl) (by kernel_rfl) (by kernel_rfl) (fun _ _ _ h => h) (Or.inl ⟨by rfl, ?hy21⟩) (by assumption) ?rest21
  case hy21 => intro w' hSw; (try dsimp only at hSw); go_simp; try with_reducible rfl
  try simp only [Act.put, List.setIfInBounds_toArray, List.set_cons_zero, List.set_cons_succ]
  refine wpAnyH_take (i := 21) (v := ?v22) (ops_at rfl) (by kernel_rfl) (by kernel_rfl) (by kernel_rfl) (fun _ _ _ h => h) (Or.inl ⟨by rfl, ?hy22⟩) (by assumption) ?rest22
  case hy22 => intro w' hSw; (try dsimp only at hSw); go_simp; try with_reducible rfl
  try simp only [Act.put, List.setIfInBounds_toArray, List.set_cons_zero, List.set_cons_succ]
  refine wpAnyH_take (i := 22) (v := ?v23) (ops_at rfl) (by kernel_rfl) (by kernel_rfl) (by kernel_rfl) (fun _ _ _ h => h) (Or.inl ⟨by rfl, ?hy23⟩) (by assumption) ?rest23
  case hy23 => intro w' hSw; (try dsimp only at hSw); go_simp; try with_reducible rfl
  try simp only [Act.put, List.setIfInBounds_toArray, List.set_cons_zero, List.set_cons_succ]
  refine wpAnyH_take (i := 23) (v := ?v24) (ops_at rfl) (by kernel_rfl) (by kernel_rfl) (by kernel_rfl) (fun _ _ _ h => h) (Or.inl ⟨by rfl, ?hy24⟩) (by assumption) ?rest24
  case hy24 => intro w' hSw; (try dsimp only at hSw); go_simp; try with_reducible rfl
  try simp only [Act.put, List.setIfInBounds_toArray, List.set_cons_zero, List.set_cons_succ]
  refine wpAnyH_take (i := 24) (v := ?v25) (ops_at rfl) (by kernel_rfl) (by kernel_rfl) (by kernel_rfl) (fun _ _ _ h => h) (Or.inl ⟨by rfl, ?hy25⟩) (by assumption) ?rest25
  case hy25 => intro w' hSw; (try dsimp only at hSw); go_simp; try with_reducible rfl
  try simp only [Act.put, List.setIfInBounds_toArray, List.set_cons_zero, List.set_cons_succ]
  refine wpAnyH_take (i := 25) (v := ?v26) (ops_at rfl) (by kernel_rfl) (by kernel_rfl) (by kernel_rfl) (fun _ _ _ h => h) (Or.inl ⟨by rfl, ?hy26⟩) (by assumption) ?rest26
  case hy26 => intro w' hSw; (try dsimp only at hSw); go_simp; try with_reducible rfl
  try simp only [Act.put, List.setIfInBounds_toArray, List.set_cons_zero, List.set_cons_succ]
  refine wpAnyH_take (i := 26) (v := ?v27) (ops_at rfl) (by kernel_rfl) (by kernel_rfl) (by kernel_rfl) (fun _ _ _ h => h) (Or.inl ⟨by rfl, ?hy27⟩) (by assumption) ?rest27
  case hy27 => intro w' hSw; (try dsimp only at hSw); go_simp; try with_reducible rfl
  try simp only [Act.put, List.setIfInBounds_toArray, List.set_cons_zero, List.set_cons_succ]
  refine wpAnyH_take (i := 27) (v := ?v28) (ops_at rfl) (by kernel_rfl) (by kernel_rfl) (by kernel_rfl) (fun _ _ _ h => h) (Or.inl ⟨by rfl, ?hy28⟩) (by assumption) ?rest28
  case hy28 => intro w' hSw; (try dsimp only at hSw); go_simp; try with_reducible rfl
  try simp only [Act.put, List.setIfInBounds_toArray, List.set_cons_zero, List.set_cons_succ]
  refine wpAnyH_take (i := 28) (v := ?v29) (ops_at rfl) (by kernel_rfl) (by kernel_rfl) (by kernel_rfl) (fun _ _ _ h => h) (Or.inl ⟨by rfl, ?hy29⟩) (by assumption) ?rest29
  case hy29 => intro w' hSw; (try dsimp only at hSw); go_simp; try with_reducible rfl
  try simp only [Act.put, List.setIfInBounds_toArray, List.set_cons_zero, List.set_cons_succ]
  refine wpAnyH_take (i := 29) (v := ?v30) (ops_at rfl) (by kernel_rfl) (by kernel_rfl) (by kernel_rfl) (fun _ _ _ h => h) (Or.inl ⟨by rfl, ?hy30⟩) (by assumption) ?rest30
  case hy30 => intro w' hSw; (try dsimp only at hSw); go_simp; try with_reducible rfl
  try simp only [Act.put, List.setIfInBounds_toArray, List.set_cons_zero, List.set_cons_succ]
  refine wpAnyH_take (i := 30) (v := ?v31) (ops_at rfl) (by kernel_rfl) (by kernel_rfl) (by kernel_rfl) (fun _ _ _ h => h) (Or.inl ⟨by rfl, ?hy31⟩) (by assumption) ?rest31
  case hy31 => intro w' hSw; (try dsimp only at hSw); go_simp; try with_reducible rfl
  try simp only [Act.put, List.setIfInBounds_toArray, List.set_cons_zero, List.set_cons_succ]
  refine wpAnyH_take (i := 31) (v := ?v32) (ops_at rfl) (by kernel_rfl) (by kernel_rfl) (by kernel_rfl) (fun _ _ _ h => h) (Or.inl ⟨by rfl, ?hy32⟩) (by assumption) ?rest32
  case hy32 => intro w' hSw; (try dsimp only at hSw); go_simp; try with_reducible rfl
  try simp only [Act.put, List.setIfInBounds_toArray, List.set_cons_zero, List.set_cons_succ]
  refine wpAnyH_take (i := 32) (v := ?v33) (ops_at rfl) (by kernel_rfl) (by kernel_rfl) (by kernel_rfl) (fun _ _ _ h => h) (Or.inl ⟨by rfl, ?hy33⟩) (by assumption) ?rest33
  case hy33 => intro w' hSw; (try dsimp only at hSw); go_simp; try with_reducible rfl
  try simp only [Act.put, List.setIfInBounds_toArray, List.set_cons_zero, List.set_cons_succ]
  refine wpAnyH_take (i := 33) (v := ?v34) (ops_at rfl) (by kernel_rfl) (by kernel_rfl) (by kernel_rfl) (fun _ _ _ h => h) (Or.inl ⟨by rfl, ?hy34⟩) (by assumption) ?rest34
  case hy34 => intro w' hSw; (try dsimp only at hSw); go_simp; try with_reducible rfl
  try simp only [Act.put, List.setIfInBounds_toArray, List.set_cons_zero, List.set_cons_succ]
  refine wpAnyH_ready (rs := [34]) (by kernel_rfl) (by simp) ?_
  refine AllReadyH.cons (ops_at rfl) (fun K hK => ?_) AllReadyH.nil
  go_simp
  refine hK.out _ _ (by exact HCl.out _ (S2.drew.alloc _)) (fun hHeld => ?_)
  clear hK K
  try simp only [Act.put, List.setIfInBounds_toArray, List.set_cons_zero, List.set_cons_succ]
  refine wpAnyH_ready (rs := [35]) (by kernel_rfl) (by simp) ?_
  refine AllReadyH.cons (ops_at rfl) (fun K hK => ?_) AllReadyH.nil
  go_simp
  refine hK.out _ _ (by exact HCl.out _ (S2.drew.alloc _)) (fun hHeld => ?_)
  clear hK K
  try simp only [Act.put, List.setIfInBounds_toArray, List.set_cons_zero, List.set_cons_succ]
  refine wpAnyH_done (by kernel_rfl) ?_ _
  have S3 : St w (w2.drew.alloc (.cells #[.int .i64 m.node, .int .i64 m.kind, .int .i64 m.term, .int .i64 m.gen, .int .i64 m.job, .int .i64 m.inc, .int .i64 m.version, .int .i64 m.epoch, .int .i64 m.until_, .int .i64 m.mode, .int .i64 m.work] 23)) [cellsT w.heap.size 23 Msg.zero.cs, ownT eI (.slice al 11 cl) m.nums, cellsT w2.heap.size 23 m.cs] := S2.drew.newCells _ _
  clear j0 j1 j2 j3 j4 j5 j6 j7 j8 j9 j10 HCl HI
  go_wp2_with fail
  refine (rnetPut_any m _).mono ?_
  rintro e w4 ⟨a4, c4, rfl, ho4, hb4⟩
  obtain ⟨n4, hn4⟩ : ∃ n4, (putM m).length = n4 := ⟨_, rfl⟩
  rw [hn4] at ho4 ⊢
  have HN4 := hid hn4
  have S4 := S3.bytes ho4 hb4
  have hpm : n4 ≤ 4020 := by
    rw [← hn4]; unfold putM
    split
    · rename_i hr
      have h1 := Msg.codeLen hr
      have h2 := frame_len (p := codeList m.nums) (by omega) (by omega)
      have h3 := codeNum_len ((codeList m.nums).length : Int)
      omega
    · simp
  clear ho4 hb4 S3 hn4
  by_cases hr : putM m = b
  case neg =>
    have HO2 : Hid (none = O) := by rw [Hid, ← HO3.out, if_neg hr]
    have ht : (putM m == b) = false := by simpa using hr
    have HT := hid ht
    clear hr ht
    go_wp2_with fail
    refine (hcmp S4 false a4 a (putM m) b n4 n c4 cap HT.out HN4.out HN.out (by unfold maxLen; omega) (by unfold maxLen; omega) (by exact S4.at 3 rfl) (by exact S4.old HA.out)).mono ?_
    rintro e w5 ⟨rfl, S5, -⟩
    have SZ := S5
    obtain ⟨f0, f1, f2, f3, f4, f5, f6, f7, f8, f9, f10⟩ := SZ.msgFrozen 0 rfl
    obtain ⟨z0, z1, z2, z3, z4, z5, z6, z7, z8, z9, z10⟩ := SZ.msg 0 rfl
    go_wp2
    have SX := SZ.setMsg (m' := Msg.zero)
    refine bodyPost_ret (res_msg rfl _ _ w.heap.size #[.int .i64 0, .int .i64 0, .int .i64 0, .int .i64 0, .int .i64 0, .int .i64 0, .int .i64 0, .int .i64 0, .int .i64 0, .int .i64 0, .int .i64 0] rfl (by exact SX.heap 0 rfl) rfl) rfl ⟨?_, by exact SX.fin⟩
    rw [← HO2.out]
    rfl
  have HO2 : Hid (some m = O) := by rw [Hid, ← HO3.out, if_pos hr]
  have ht : (putM m == b) = true := by simpa using hr
  have HT := hid ht
  clear hr ht
  go_wp2_with fail
  refine (hcmp S4 true a4 a (putM m) b n4 n c4 cap HT.out HN4.out HN.out (by unfold maxLen; omega) (by unfold maxLen; omega) (by exact S4.at 3 rfl) (by exact S4.old HA.out)).mono ?_
  rintro e w5 ⟨rfl, S5, -⟩
  obtain ⟨f0, f1, f2, f3, f4, f5, f6, f7, f8, f9, f10⟩ := S5.msgFrozen 0 rfl
  obtain ⟨z0, z1, z2, z3, z4, z5, z6, z7, z8, z9, z10⟩ := S5.msg 0 rfl
  obtain ⟨y0, y1, y2, y3, y4, y5, y6, y7, y8, y9, y10⟩ := S5.msg 2 rfl
  go_wp2
  have SX := S5.setMsg (m' := m)
  refine bodyPost_ret (res_msg rfl _ _ w.heap.size #[.int .i64 m.node, .int .i64 m.kind, .int .i64 m.term, .int .i64 m.gen, .int .i64 m.job, .int .i64 m.inc, .int .i64 m.version, .int .i64 m.epoch, .int .i64 m.until_, .int .i64 m.mode, .int .i64 m.work] rfl (by exact SX.heap 0 rfl) rfl) rfl ⟨?_, by exact SX.fin⟩
  rw [← HO2.out]
  rfl

end Go.Proofs.Ytjibmbejfpdifaa
