/- The document's net: Deliver, List; messages held against each other. -/
import Derived.Test.YtjibmbejfpdifaaNetRef3
namespace Go.Proofs.Ytjibmbejfpdifaa
set_option linter.unusedVariables false
set_option linter.unusedSimpArgs false
open Go.RowKit
section
variable {w0 w : World} {tl : List Thing} {h : Nat} {aL aB : Option Addr} {cL cB : Nat} {s : NS}
def RDPost (w0 : World) (h : Nat) (tl : List Thing) (q : Option Msg × NS) (e : Ending) (w' : World) : Prop := ∃ aL cL aB cB, GetMPost q.1 e ∧ St w0 w' (rnL h aL cL aB cB q.2 tl)
set_option maxRecDepth 10000 in
set_option maxHeartbeats 3200000 in
theorem rnDeliver_any (S : St w0 w (rnL h aL cL aB cB s tl)) (hl : s.l.length ≤ 40) (i : Int) :
    Calls Try.prog 30 #[.pointer (some ⟨h, 0, none⟩), .int .i64 i] w fun e w' => RDPost w0 h tl (nDeliver s i) e w' := by
  have S1 : St w0 (w.alloc (.cells #[.int .i64 0, .int .i64 0, .int .i64 0, .int .i64 0, .int .i64 0, .int .i64 0, .int .i64 0, .int .i64 0, .int .i64 0, .int .i64 0, .int .i64 0] 23)) (rnL h aL cL aB cB s (tl ++ [cellsT w.heap.size 23 Msg.zero.cs])) := S.newCells 23 #[.int .i64 0, .int .i64 0, .int .i64 0, .int .i64 0, .int .i64 0, .int .i64 0, .int .i64 0, .int .i64 0, .int .i64 0, .int .i64 0, .int .i64 0]
  by_cases hi : 0 ≤ i ∧ i < (s.l.length : Int)
  case neg =>
    have HE : Hid (∀ e w', GetMPost none e → St w0 w' (rnL h aL cL aB cB s tl) → RDPost w0 h tl (nDeliver s i) e w') := by
      intro e w' h1 h2; unfold nDeliver; rw [if_neg hi]; exact ⟨aL, cL, aB, cB, h1, h2⟩
    have g0 := hid (has_no hi)
    clear hi
    go_enter Try.func30, Try.ntmps30
    go_wp2_with fail
    refine (rnHas_any S1 i).mono ?_
    rintro e w1 ⟨rfl, rfl⟩
    rw [g0.out]
    have SZ : St w0 _ (cellsT w.heap.size 23 Msg.zero.cs :: rnL h aL cL aB cB s tl) := St.rot (l := rnL h aL cL aB cB s tl) S1
    obtain ⟨f0, f1, f2, f3, f4, f5, f6, f7, f8, f9, f10⟩ := SZ.msgFrozen 0 rfl
    obtain ⟨z0, z1, z2, z3, z4, z5, z6, z7, z8, z9, z10⟩ := SZ.msg 0 rfl
    go_wp2
    refine bodyPost_ret (res_msg rfl _ _ w.heap.size #[.int .i64 0, .int .i64 0, .int .i64 0, .int .i64 0, .int .i64 0, .int .i64 0, .int .i64 0, .int .i64 0, .int .i64 0, .int .i64 0, .int .i64 0] rfl (by exact SZ.heap 0 rfl) rfl) rfl ?_
    refine HE.out _ _ ?_ ?_
    · rfl
    · exact SZ.tail
  obtain ⟨j, rfl⟩ : ∃ j : Nat, i = j := ⟨i.toNat, by omega⟩
  have hj : j < s.l.length := by omega
  have HD : Hid (nDrop s j = (true, ⟨s.l.eraseIdx j, s.sent⟩)) := by rw [Hid]; unfold nDrop; rw [if_pos hi]; rfl
  have HE : Hid (∀ e w' aL cL aB cB, GetMPost (s.l[j]).shown e → St w0 w' (rnL h aL cL aB cB ⟨s.l.eraseIdx j, s.sent⟩ tl) → RDPost w0 h tl (nDeliver s j) e w') := by
    intro e w' aL cL aB cB h1 h2; unfold nDeliver; rw [if_pos hi, Int.toNat_natCast, getD_at hj]; exact ⟨aL, cL, aB, cB, h1, h2⟩
  have g0 := hid (has_yes hi)
  clear hi
  have hjM : j < (s.l.map NM.m).length := by rw [List.length_map]; exact hj
  have hjT : j < (s.l.map fun x => x.k.isSome).length := by rw [List.length_map]; exact hj
  obtain ⟨x, hx⟩ : ∃ x, s.l[j] = x := ⟨_, rfl⟩
  have hm : (s.l.map NM.m)[j] = x.m := by rw [List.getElem_map, hx]
  have hb : (s.l.map fun x => x.k.isSome)[j] = x.k.isSome := by rw [List.getElem_map, hx]
  rw [hx] at HE
  obtain ⟨m, hm0⟩ : ∃ m, x.m = m := ⟨_, rfl⟩
  obtain ⟨b, hb0⟩ : ∃ b, x.k.isSome = b := ⟨_, rfl⟩
  rw [hm0] at hm
  rw [hb0] at hb
  have i0 := fun wx => idxM aL s.l.length cL (fun h => (S.slG eMok 1 rfl).2.2.2.2.ok (Nat.lt_of_le_of_lt (Nat.zero_le _) hjM)) j hj wx
  have i1 := fun wx => idxT aB s.l.length cB (fun h => (S.slC eTok 2 rfl).2.2.2.2.1.ok (Nat.lt_of_le_of_lt (Nat.zero_le _) hjT)) j hj wx
  have HMA : Hid (∀ w' tl, St w0 w' (rnL h aL cL aB cB s tl) → MsgAt w' (adr aL (j * 11)) m ∧ w'.cell? (adr aB j) = some (.bool b) ∧ w'.cell? ⟨h, 0, none⟩ = some (.slice aL s.l.length cL) ∧ w'.cell? ⟨h, 1, none⟩ = some (.slice aB s.l.length cB)) := by
    intro w' tl S'
    have h1 := (S'.slG eMok 1 rfl).2.2.2.2.msgAt hjM
    have h2 := (S'.slC eTok 2 rfl).2.2.2.2.1.cellT hjT
    rw [hm] at h1
    rw [hb] at h2
    exact ⟨h1, h2, S'.cell 0 rfl 0 rfl, S'.cell 0 rfl 1 rfl⟩
  have hsh : Hid (x.shown = if b = true then none else some m) := by
    rw [Hid, ← hb0, ← hm0]; unfold NM.shown; cases x.k <;> simp
  clear hx hm hb hm0 hb0 S hjM hjT
  generalize adr aL (j * 11) = A at *
  generalize adr aB j = B at *
  go_enter Try.func30, Try.ntmps30
  go_wp2_with fail
  refine (rnHas_any S1 j).mono ?_
  rintro e w1 ⟨rfl, rfl⟩
  rw [g0.out]
  go_wp2_with fail
  refine wp_region_held_drew (S := (fun w' => (w'.cell? A = some (.int .i64 m.node) ∧ w'.cell? { block := A.block, off := A.off + 1 } = some (.int .i64 m.kind) ∧ w'.cell? { block := A.block, off := A.off + 2 } = some (.int .i64 m.term) ∧ w'.cell? { block := A.block, off := A.off + 3 } = some (.int .i64 m.gen) ∧ w'.cell? { block := A.block, off := A.off + 4 } = some (.int .i64 m.job) ∧ w'.cell? { block := A.block, off := A.off + 5 } = some (.int .i64 m.inc) ∧ w'.cell? { block := A.block, off := A.off + 6 } = some (.int .i64 m.version) ∧ w'.cell? { block := A.block, off := A.off + 7 } = some (.int .i64 m.epoch) ∧ w'.cell? { block := A.block, off := A.off + 8 } = some (.int .i64 m.until_) ∧ w'.cell? { block := A.block, off := A.off + 9 } = some (.int .i64 m.mode) ∧ w'.cell? { block := A.block, off := A.off + 10 } = some (.int .i64 m.work)) ∧ w'.cell? B = some (.bool b) ∧ w'.cell? ⟨h, 0, none⟩ = some (.slice aL s.l.length cL) ∧ w'.cell? ⟨h, 1, none⟩ = some (.slice aB s.l.length cB))) (by kernel_rfl) (by exact HMA.out _ _ S1.drew) (fun hHeld => ?_)
  change wpAnyH _ _ _ _ _ 17 (Array.replicate 17 false) _ _
  refine wpAnyH_take (i := 0) (v := ?v1) (ops_at rfl) (by kernel_rfl) (by kernel_rfl) (by kernel_rfl) (fun _ _ _ h => h) (Or.inl ⟨by rfl, ?hy1⟩) (by assumption) ?rest1
  case hy1 => intro w' hSw; (try dsimp only at hSw); go_simp; try with_reducible rfl
  try simp only [Act.put, List.setIfInBounds_toArray, List.set_cons_zero, List.set_cons_succ]
  refine wpAnyH_take (i := 1) (v := ?v2) (ops_at rfl) (by kernel_rfl) (by kernel_rfl) (by kernel_rfl) (fun _ _ _ h => h) (Or.inl ⟨by rfl, ?hy2⟩) (by assumption) ?rest2
  case hy2 => intro w' hSw; (try dsimp only at hSw); go_simp; try with_reducible rfl
  try simp only [Act.put, List.setIfInBounds_toArray, List.set_cons_zero, List.set_cons_succ]
  refine wpAnyH_take (i := 2) (v := ?v3) (ops_at rfl) (by kernel_rfl) (by kernel_rfl) (by kernel_rfl) (fun _ _ _ h => h) (Or.inl ⟨by rfl, ?hy3⟩) (by assumption) ?rest3
  case hy3 => intro w' hSw; (try dsimp only at hSw); go_simp; try with_reducible rfl
  try simp only [Act.put, List.setIfInBounds_toArray, List.set_cons_zero, List.set_cons_succ]
  refine wpAnyH_take (i := 3) (v := ?v4) (ops_at rfl) (by kernel_rfl) (by kernel_rfl) (by kernel_rfl) (fun _ _ _ h => h) (Or.inl ⟨by rfl, ?hy4⟩) (by assumption) ?rest4
  case hy4 => intro w' hSw; (try dsimp only at hSw); go_simp; try with_reducible rfl
  try simp only [Act.put, List.setIfInBounds_toArray, List.set_cons_zero, List.set_cons_succ]
  refine wpAnyH_take (i := 4) (v := ?v5) (ops_at rfl) (by kernel_rfl) (by kernel_rfl) (by kernel_rfl) (fun _ _ _ h => h) (Or.inl ⟨by rfl, ?hy5⟩) (by assumption) ?rest5
  case hy5 => intro w' hSw; (try dsimp only at hSw); go_simp; try with_reducible rfl
  try simp only [Act.put, List.setIfInBounds_toArray, List.set_cons_zero, List.set_cons_succ]
  refine wpAnyH_take (i := 5) (v := ?v6) (ops_at rfl) (by kernel_rfl) (by kernel_rfl) (by kernel_rfl) (fun _ _ _ h => h) (Or.inl ⟨by rfl, ?hy6⟩) (by assumption) ?rest6
  case hy6 => intro w' hSw; (try dsimp only at hSw); go_simp; try with_reducible rfl
  try simp only [Act.put, List.setIfInBounds_toArray, List.set_cons_zero, List.set_cons_succ]
  refine wpAnyH_take (i := 6) (v := ?v7) (ops_at rfl) (by kernel_rfl) (by kernel_rfl) (by kernel_rfl) (fun _ _ _ h => h) (Or.inl ⟨by rfl, ?hy7⟩) (by assumption) ?rest7
  case hy7 => intro w' hSw; (try dsimp only at hSw); go_simp; try with_reducible rfl
  try simp only [Act.put, List.setIfInBounds_toArray, List.set_cons_zero, List.set_cons_succ]
  refine wpAnyH_take (i := 7) (v := ?v8) (ops_at rfl) (by kernel_rfl) (by kernel_rfl) (by kernel_rfl) (fun _ _ _ h => h) (Or.inl ⟨by rfl, ?hy8⟩) (by assumption) ?rest8
  case hy8 => intro w' hSw; (try dsimp only at hSw); go_simp; try with_reducible rfl
  try simp only [Act.put, List.setIfInBounds_toArray, List.set_cons_zero, List.set_cons_succ]
  refine wpAnyH_take (i := 8) (v := ?v9) (ops_at rfl) (by kernel_rfl) (by kernel_rfl) (by kernel_rfl) (fun _ _ _ h => h) (Or.inl ⟨by rfl, ?hy9⟩) (by assumption) ?rest9
  case hy9 => intro w' hSw; (try dsimp only at hSw); go_simp; try with_reducible rfl
  try simp only [Act.put, List.setIfInBounds_toArray, List.set_cons_zero, List.set_cons_succ]
  refine wpAnyH_take (i := 9) (v := ?v10) (ops_at rfl) (by kernel_rfl) (by kernel_rfl) (by kernel_rfl) (fun _ _ _ h => h) (Or.inl ⟨by rfl, ?hy10⟩) (by assumption) ?rest10
  case hy10 => intro w' hSw; (try dsimp only at hSw); go_simp; try with_reducible rfl
  try simp only [Act.put, List.setIfInBounds_toArray, List.set_cons_zero, List.set_cons_succ]
  refine wpAnyH_take (i := 10) (v := ?v11) (ops_at rfl) (by kernel_rfl) (by kernel_rfl) (by kernel_rfl) (fun _ _ _ h => h) (Or.inl ⟨by rfl, ?hy11⟩) (by assumption) ?rest11
  case hy11 => intro w' hSw; (try dsimp only at hSw); go_simp; try with_reducible rfl
  try simp only [Act.put, List.setIfInBounds_toArray, List.set_cons_zero, List.set_cons_succ]
  refine wpAnyH_take (i := 11) (v := ?v12) (ops_at rfl) (by kernel_rfl) (by kernel_rfl) (by kernel_rfl) (fun _ _ _ h => h) (Or.inl ⟨by rfl, ?hy12⟩) (by assumption) ?rest12
  case hy12 => intro w' hSw; (try dsimp only at hSw); go_simp; try with_reducible rfl
  try simp only [Act.put, List.setIfInBounds_toArray, List.set_cons_zero, List.set_cons_succ]
  refine wpAnyH_take (i := 12) (v := ?v13) (ops_at rfl) (by kernel_rfl) (by kernel_rfl) (by kernel_rfl) (fun _ _ _ h => h) (Or.inl ⟨by rfl, ?hy13⟩) (by assumption) ?rest13
  case hy13 => intro w' hSw; (try dsimp only at hSw); go_simp; try with_reducible rfl
  try simp only [Act.put, List.setIfInBounds_toArray, List.set_cons_zero, List.set_cons_succ]
  refine wpAnyH_take (i := 13) (v := ?v14) (ops_at rfl) (by kernel_rfl) (by kernel_rfl) (by kernel_rfl) (fun _ _ _ h => h) (Or.inl ⟨by rfl, ?hy14⟩) (by assumption) ?rest14
  case hy14 => intro w' hSw; (try dsimp only at hSw); go_simp; try with_reducible rfl
  try simp only [Act.put, List.setIfInBounds_toArray, List.set_cons_zero, List.set_cons_succ]
  refine wpAnyH_ready (rs := [14]) (by kernel_rfl) (by simp) ?_
  refine AllReadyH.cons (ops_at rfl) (fun K hK => ?_) AllReadyH.nil
  go_simp
  refine hK.out _ _ (by exact HMA.out _ _ (S1.drew.alloc _)) (fun hHeld => ?_)
  clear hK K
  try simp only [Act.put, List.setIfInBounds_toArray, List.set_cons_zero, List.set_cons_succ]
  refine wpAnyH_ready (rs := [15]) (by kernel_rfl) (by simp) ?_
  refine AllReadyH.cons (ops_at rfl) (fun K hK => ?_) AllReadyH.nil
  go_simp
  refine hK.out _ _ (by exact HMA.out _ _ (S1.alloc _).drew) (fun hHeld => ?_)
  clear hK K
  try simp only [Act.put, List.setIfInBounds_toArray, List.set_cons_zero, List.set_cons_succ]
  refine wpAnyH_take (i := 16) (v := ?v15) (ops_at rfl) (by kernel_rfl) (by kernel_rfl) (by kernel_rfl) (fun _ _ _ h => h) (Or.inl ⟨by rfl, ?hy15⟩) (by assumption) ?rest15
  case hy15 => intro w' hSw; (try dsimp only at hSw); go_simp; try with_reducible rfl
  try simp only [Act.put, List.setIfInBounds_toArray, List.set_cons_zero, List.set_cons_succ]
  refine wpAnyH_done (by kernel_rfl) ?_ _
  have S3 : St w0 _ (rnL h aL cL aB cB s ((tl ++ [cellsT w.heap.size 23 Msg.zero.cs]) ++ [cellsT (w.heap.size + 1) 23 m.cs])) := (S1.newAt 23 #[.int .i64 m.node, .int .i64 m.kind, .int .i64 m.term, .int .i64 m.gen, .int .i64 m.job, .int .i64 m.inc, .int .i64 m.version, .int .i64 m.epoch, .int .i64 m.until_, .int .i64 m.mode, .int .i64 m.work] (w.heap.size + 1) (alloc_size _ _)).drew
  clear S1 hHeld i0 i1
  go_wp2_with fail
  refine (rnDrop_any S3 hl j).mono ?_
  rintro e w4 ⟨aL', cL', aB', cB', rfl, S4⟩
  rw [HD.out] at S4 ⊢
  have SM : St w0 w4 (cellsT (w.heap.size + 1) 23 m.cs :: rnL h aL' cL' aB' cB' ⟨s.l.eraseIdx j, s.sent⟩ (tl ++ [cellsT w.heap.size 23 Msg.zero.cs])) := St.rot (l := rnL h aL' cL' aB' cB' ⟨s.l.eraseIdx j, s.sent⟩ (tl ++ [cellsT w.heap.size 23 Msg.zero.cs])) S4
  have SZ : St w0 w4 (cellsT w.heap.size 23 Msg.zero.cs :: rnL h aL' cL' aB' cB' ⟨s.l.eraseIdx j, s.sent⟩ tl) := St.rot (l := rnL h aL' cL' aB' cB' ⟨s.l.eraseIdx j, s.sent⟩ tl) SM.tail
  obtain ⟨f0, f1, f2, f3, f4, f5, f6, f7, f8, f9, f10⟩ := SZ.msgFrozen 0 rfl
  obtain ⟨z0, z1, z2, z3, z4, z5, z6, z7, z8, z9, z10⟩ := SZ.msg 0 rfl
  obtain ⟨y0, y1, y2, y3, y4, y5, y6, y7, y8, y9, y10⟩ := SM.msg 0 rfl
  clear S4 S3
  cases b
  · go_wp2
    have SX := SZ.setMsg (m' := m)
    refine bodyPost_ret (res_msg rfl _ _ w.heap.size #[.int .i64 m.node, .int .i64 m.kind, .int .i64 m.term, .int .i64 m.gen, .int .i64 m.job, .int .i64 m.inc, .int .i64 m.version, .int .i64 m.epoch, .int .i64 m.until_, .int .i64 m.mode, .int .i64 m.work] rfl (by exact SX.heap 0 rfl) rfl) rfl ?_
    refine HE.out _ _ aL' cL' aB' cB' ?_ ?_
    · rw [hsh.out]; rfl
    · exact SX.tail
  · go_wp2
    have SX := SZ.setMsg (m' := Msg.zero)
    refine bodyPost_ret (res_msg rfl _ _ w.heap.size #[.int .i64 0, .int .i64 0, .int .i64 0, .int .i64 0, .int .i64 0, .int .i64 0, .int .i64 0, .int .i64 0, .int .i64 0, .int .i64 0, .int .i64 0] rfl (by exact SX.heap 0 rfl) rfl) rfl ?_
    refine HE.out _ _ aL' cL' aB' cB' ?_ ?_
    · rw [hsh.out]; rfl
    · exact SX.tail
theorem nList_step {l : List NM} {k : Nat} (hk : k < l.length) : (l.take (k + 1)).filterMap NM.shown = (l.take k).filterMap NM.shown ++ l[k].shown.toList := by
  rw [List.take_succ_eq_append_getElem hk, List.filterMap_append]
  cases h : l[k].shown <;> simp [h]
set_option maxRecDepth 10000 in
set_option maxHeartbeats 3200000 in
theorem rnList_any (S : St w0 w (rnL h aL cL aB cB s tl)) (hl : s.l.length ≤ 40) :
    Calls Try.prog 35 #[.pointer (some ⟨h, 0, none⟩)] w fun e w' => ∃ a' c', e = .returned (.slice a' (nList s).length c') ∧ St w0 w' (ownT eM (.slice a' (nList s).length c') (nList s) :: rnL h aL cL aB cB s tl) := by
  have S0 := (S.nilG eM).rot
  obtain ⟨n, hn⟩ : ∃ n, s.l.length = n := ⟨_, rfl⟩
  have HN := hid hn
  have HC : Hid (∀ w' v l, St w0 w' (ownT eM v l :: rnL h aL cL aB cB s tl) → w'.cell? ⟨h, 0, none⟩ = some (.slice aL n cL) ∧ w'.cell? ⟨h, 1, none⟩ = some (.slice aB n cB)) := by
    intro w' v l S'
    rw [← hn]
    exact ⟨S'.cell 1 rfl 0 rfl, S'.cell 1 rfl 1 rfl⟩
  rw [hn] at hl
  clear S hn
  go_enter Try.func35, Try.ntmps35
  go_wp2_with fail
  go_loopw [3, 4] (fun v i wr => ∃ (k N : Nat) (a1 : Option Addr) (c1 : Nat), k ≤ n ∧ v = .slice a1 N c1 ∧ i = .int .i64 k ∧ St w0 wr (ownT eM (.slice a1 N c1) ((s.l.take k).filterMap NM.shown) :: rnL h aL cL aB cB s tl)) (fun _ i _ => n - (intOf i).toNat)
  case atStart => exact ⟨0, 0, none, 0, Nat.zero_le _, rfl, rfl, S0⟩
  case round =>
    obtain ⟨k, N, a1, c1, hk, rfl, rfl, Sk⟩ := hrel
    clear S0
    have hNk : N ≤ k := by
      have h1 := (Sk.slG eMok 0 rfl).1
      have h2 := List.length_filterMap_le NM.shown (s.l.take k)
      rw [List.length_take] at h2
      omega
    have HN1 := hid (Sk.slG eMok 0 rfl).1
    obtain ⟨c0, c1'⟩ := HC.out _ _ _ Sk
    by_cases hlt : k < n
    case neg =>
      have g0 : decide ((k : Int) < (n : Int)) = false := decide_eq_false (by omega)
      have g0n : decide (k < n) = false := decide_eq_false (by omega)
      have e : Hid ((s.l.take k).filterMap NM.shown = nList s) := by rw [Hid]; unfold nList; rw [List.take_of_length_le (by have := HN.out; omega)]
      have e2 : Hid (N = (nList s).length) := by rw [Hid, ← e.out, HN1.out]
      clear hlt hk
      go_wp2
      go_ret
      refine ⟨a1, c1, ?_, ?_⟩
      · rw [← e2.out]; rfl
      · have := Sk; rw [e.out] at this; rw [← e2.out]; exact this
    have g0 : decide ((k : Int) < (n : Int)) = true := decide_eq_true (by omega)
    have g0n : decide (k < n) = true := decide_eq_true (by omega)
    have hkl : k < s.l.length := by rw [HN.out]; exact hlt
    have hjM : k < (s.l.map NM.m).length := by rw [List.length_map]; exact hkl
    have hjT : k < (s.l.map fun x => x.k.isSome).length := by rw [List.length_map]; exact hkl
    have hAM := (Sk.slG eMok 2 rfl).2.2.2.2
    have hAT := (Sk.slC eTok 3 rfl).2.2.2.2.1
    have i0 := fun wx => idxM aL n cL (fun h => hAM.ok (Nat.lt_of_le_of_lt (Nat.zero_le _) hjM)) k hlt wx
    have i1 := fun wx => idxT aB n cB (fun h => hAT.ok (Nat.lt_of_le_of_lt (Nat.zero_le _) hjT)) k hlt wx
    obtain ⟨z0, z1, z2, z3, z4, z5, z6, z7, z8, z9, z10⟩ := hAM.msgAt hjM
    have y0 := hAT.cellT hjT
    have HSt := hid (nList_step hkl)
    obtain ⟨x, hx⟩ : ∃ x, s.l[k] = x := ⟨_, rfl⟩
    rw [List.getElem_map, hx] at z0 z1 z2 z3 z4 z5 z6 z7 z8 z9 z10
    rw [List.getElem_map, hx] at y0
    rw [hx] at HSt
    clear hAM hAT hx hkl
    generalize adr aL (k * 11) = A at *
    generalize adr aB k = B at *
    obtain ⟨m, kk⟩ := x
    cases kk with
    | some kk =>
      have y1 : wr.cell? B = some (.bool true) := y0
      clear y0
      go_wp2
      go_roundw
      case rel => exact ⟨k + 1, N, a1, c1, by omega, rfl, by go_num, by rw [HSt.out]; simpa [NM.shown] using Sk⟩
      case measure => simp [intOf]; omega
    | none =>
      have y1 : wr.cell? B = some (.bool false) := y0
      clear y0
      simp only at z0 z1 z2 z3 z4 z5 z6 z7 z8 z9 z10
      obtain ⟨N1, hN1⟩ : ∃ N1, N + 1 = N1 := ⟨_, rfl⟩
      have HNN := hid hN1
      go_wp2_with (at_builtin; refine wpList_app (by rfl) (.tmp 22) (.tmp 30) eM.T eM.T eM.T rfl rfl _ _ rfl rfl (Sk.appG1 eMok wr.heap.size rfl 0 rfl m _ (by rfl) N1 (by rw [HN1.out]; exact HNN.out) (by show _ * 88 ≤ _; omega) (by unfold maxLen; omega)) ?_; rintro v3 w3 ⟨⟨a3, c3, rfl⟩, S3⟩)
      go_roundw
      case rel => exact ⟨k + 1, N1, a3, c3, by omega, rfl, by go_num, by rw [HSt.out]; simpa [NM.shown] using S3⟩
      case measure => simp [intOf]; omega
set_option maxRecDepth 10000 in
set_option maxHeartbeats 3200000 in
theorem msame_any (a b : Option Addr) (L : List Msg) (n ca cb : Nat) (w : World) (hn : L.length = n) (hm : n ≤ 1000000) (hA : AtG eM w a L) (hB : AtG eM w b L) :
    Calls Try.prog 34 #[.slice a n ca, .slice b n cb] w fun e w' => e = .returned (.bool true) ∧ Below w.heap.size w w' := by
  have HN := hid hn
  have HA := hid hA
  have HB := hid hB
  have S0 := St.start w
  have g0 : ((n : Int) != (n : Int)) = false := by simp
  clear hn hA hB
  go_enter Try.func34, Try.ntmps34
  go_wp2_with fail
  go_loopw [5] (fun i wr => ∃ k : Nat, k ≤ n ∧ i = .int .i64 k ∧ St w wr []) (fun i _ => n - (intOf i).toNat)
  case atStart => exact ⟨0, Nat.zero_le _, rfl, S0⟩
  case round =>
    obtain ⟨k, hk, rfl, Sk⟩ := hrel
    clear S0
    by_cases hlt : k < n
    case neg =>
      have g1 : decide ((k : Int) < (n : Int)) = false := decide_eq_false (by omega)
      have g1n : decide (k < n) = false := decide_eq_false (by omega)
      clear hlt
      go_wp2
      go_ret
      exact ⟨rfl, Sk.fin⟩
    have g1 : decide ((k : Int) < (n : Int)) = true := decide_eq_true (by omega)
    have g1n : decide (k < n) = true := decide_eq_true (by omega)
    have hkl : k < L.length := by rw [HN.out]; exact hlt
    have hA1 := HA.out.all eMok Sk.fin
    have hB1 := HB.out.all eMok Sk.fin
    have i0 := fun wx => idxM a n ca (fun h => hA1.ok (by omega)) k hlt wx
    have i1 := fun wx => idxM b n cb (fun h => hB1.ok (by omega)) k hlt wx
    obtain ⟨x0, x1, x2, x3, x4, x5, x6, x7, x8, x9, x10⟩ := hA1.msgAt hkl
    obtain ⟨z0, z1, z2, z3, z4, z5, z6, z7, z8, z9, z10⟩ := hB1.msgAt hkl
    obtain ⟨m, hm0⟩ : ∃ m, L[k] = m := ⟨_, rfl⟩
    rw [hm0] at x0 x1 x2 x3 x4 x5 x6 x7 x8 x9 x10 z0 z1 z2 z3 z4 z5 z6 z7 z8 z9 z10
    have q1 := fun wx => neM m m wx
    rw [Msg.eq_self] at q1
    clear hA1 hB1 hm0
    generalize adr a (k * 11) = A at *
    generalize adr b (k * 11) = B at *
    go_wp2_with fail
    refine wp_region_held_drew (S := (fun w' => (w'.cell? A = some (.int .i64 m.node) ∧ w'.cell? { block := A.block, off := A.off + 1 } = some (.int .i64 m.kind) ∧ w'.cell? { block := A.block, off := A.off + 2 } = some (.int .i64 m.term) ∧ w'.cell? { block := A.block, off := A.off + 3 } = some (.int .i64 m.gen) ∧ w'.cell? { block := A.block, off := A.off + 4 } = some (.int .i64 m.job) ∧ w'.cell? { block := A.block, off := A.off + 5 } = some (.int .i64 m.inc) ∧ w'.cell? { block := A.block, off := A.off + 6 } = some (.int .i64 m.version) ∧ w'.cell? { block := A.block, off := A.off + 7 } = some (.int .i64 m.epoch) ∧ w'.cell? { block := A.block, off := A.off + 8 } = some (.int .i64 m.until_) ∧ w'.cell? { block := A.block, off := A.off + 9 } = some (.int .i64 m.mode) ∧ w'.cell? { block := A.block, off := A.off + 10 } = some (.int .i64 m.work)) ∧ (w'.cell? B = some (.int .i64 m.node) ∧ w'.cell? { block := B.block, off := B.off + 1 } = some (.int .i64 m.kind) ∧ w'.cell? { block := B.block, off := B.off + 2 } = some (.int .i64 m.term) ∧ w'.cell? { block := B.block, off := B.off + 3 } = some (.int .i64 m.gen) ∧ w'.cell? { block := B.block, off := B.off + 4 } = some (.int .i64 m.job) ∧ w'.cell? { block := B.block, off := B.off + 5 } = some (.int .i64 m.inc) ∧ w'.cell? { block := B.block, off := B.off + 6 } = some (.int .i64 m.version) ∧ w'.cell? { block := B.block, off := B.off + 7 } = some (.int .i64 m.epoch) ∧ w'.cell? { block := B.block, off := B.off + 8 } = some (.int .i64 m.until_) ∧ w'.cell? { block := B.block, off := B.off + 9 } = some (.int .i64 m.mode) ∧ w'.cell? { block := B.block, off := B.off + 10 } = some (.int .i64 m.work)))) (by kernel_rfl) (by exact ⟨⟨x0, x1, x2, x3, x4, x5, x6, x7, x8, x9, x10⟩, z0, z1, z2, z3, z4, z5, z6, z7, z8, z9, z10⟩) (fun hHeld => ?_)
    change wpAnyH _ _ _ _ _ 9 (Array.replicate 9 false) _ _
    refine wpAnyH_take (i := 0) (v := ?v16) (ops_at rfl) (by kernel_rfl) (by kernel_rfl) (by kernel_rfl) (fun _ _ _ h => h) (Or.inl ⟨by rfl, ?hy16⟩) (by assumption) ?rest16
    case hy16 => intro w' hSw; (try dsimp only at hSw); go_simp; try with_reducible rfl
    try simp only [Act.put, List.setIfInBounds_toArray, List.set_cons_zero, List.set_cons_succ]
    refine wpAnyH_take (i := 1) (v := ?v17) (ops_at rfl) (by kernel_rfl) (by kernel_rfl) (by kernel_rfl) (fun _ _ _ h => h) (Or.inl ⟨by rfl, ?hy17⟩) (by assumption) ?rest17
    case hy17 => intro w' hSw; (try dsimp only at hSw); go_simp; try with_reducible rfl
    try simp only [Act.put, List.setIfInBounds_toArray, List.set_cons_zero, List.set_cons_succ]
    refine wpAnyH_take (i := 2) (v := ?v18) (ops_at rfl) (by kernel_rfl) (by kernel_rfl) (by kernel_rfl) (fun _ _ _ h => h) (Or.inl ⟨by rfl, ?hy18⟩) (by assumption) ?rest18
    case hy18 => intro w' hSw; (try dsimp only at hSw); go_simp; try with_reducible rfl
    try simp only [Act.put, List.setIfInBounds_toArray, List.set_cons_zero, List.set_cons_succ]
    refine wpAnyH_take (i := 3) (v := ?v19) (ops_at rfl) (by kernel_rfl) (by kernel_rfl) (by kernel_rfl) (fun _ _ _ h => h) (Or.inl ⟨by rfl, ?hy19⟩) (by assumption) ?rest19
    case hy19 => intro w' hSw; (try dsimp only at hSw); go_simp; try with_reducible rfl
    try simp only [Act.put, List.setIfInBounds_toArray, List.set_cons_zero, List.set_cons_succ]
    refine wpAnyH_take (i := 4) (v := ?v20) (ops_at rfl) (by kernel_rfl) (by kernel_rfl) (by kernel_rfl) (fun _ _ _ h => h) (Or.inl ⟨by rfl, ?hy20⟩) (by assumption) ?rest20
    case hy20 => intro w' hSw; (try dsimp only at hSw); go_simp; try with_reducible rfl
    try simp only [Act.put, List.setIfInBounds_toArray, List.set_cons_zero, List.set_cons_succ]
    refine wpAnyH_take (i := 5) (v := ?v21) (ops_at rfl) (by kernel_rfl) (by kernel_rfl) (by kernel_rfl) (fun _ _ _ h => h) (Or.inl ⟨by rfl, ?hy21⟩) (by assumption) ?rest21
    case hy21 => intro w' hSw; (try dsimp only at hSw); go_simp; try with_reducible rfl
    try simp only [Act.put, List.setIfInBounds_toArray, List.set_cons_zero, List.set_cons_succ]
    refine wpAnyH_take (i := 6) (v := ?v22) (ops_at rfl) (by kernel_rfl) (by kernel_rfl) (by kernel_rfl) (fun _ _ _ h => h) (Or.inl ⟨by rfl, ?hy22⟩) (by assumption) ?rest22
    case hy22 => intro w' hSw; (try dsimp only at hSw); go_simp; try with_reducible rfl
    try simp only [Act.put, List.setIfInBounds_toArray, List.set_cons_zero, List.set_cons_succ]
    refine wpAnyH_take (i := 7) (v := ?v23) (ops_at rfl) (by kernel_rfl) (by kernel_rfl) (by kernel_rfl) (fun _ _ _ h => h) (Or.inl ⟨by rfl, ?hy23⟩) (by assumption) ?rest23
    case hy23 => intro w' hSw; (try dsimp only at hSw); go_simp; try with_reducible rfl
    try simp only [Act.put, List.setIfInBounds_toArray, List.set_cons_zero, List.set_cons_succ]
    refine wpAnyH_take (i := 8) (v := ?v24) (ops_at rfl) (by kernel_rfl) (by kernel_rfl) (by kernel_rfl) (fun _ _ _ h => h) (Or.inl ⟨by rfl, ?hy24⟩) (by assumption) ?rest24
    case hy24 => intro w' hSw; (try dsimp only at hSw); go_simp; try with_reducible rfl
    try simp only [Act.put, List.setIfInBounds_toArray, List.set_cons_zero, List.set_cons_succ]
    refine wpAnyH_done (by kernel_rfl) ?_ _
    go_wp2
    go_roundw
    case rel => exact ⟨k + 1, by omega, by go_num, Sk.drew⟩
    case measure => simp [intOf]; omega
end

end Go.Proofs.Ytjibmbejfpdifaa
