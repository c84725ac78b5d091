/- NetOrder. -/
import Derived.Test.YtjibmbejfpdifaaNetLaw2
namespace Go.Proofs.Ytjibmbejfpdifaa
set_option linter.unusedVariables false
set_option linter.unusedSimpArgs false
open Go.RowKit
/-- A message behind an address. -/
def MsgAt (w : World) (A : Addr) (m : Msg) : Prop := w.cell? (A) = some (.int .i64 m.node) ∧ w.cell? { block := (A).block, off := (A).off + 1 } = some (.int .i64 m.kind) ∧ w.cell? { block := (A).block, off := (A).off + 2 } = some (.int .i64 m.term) ∧ w.cell? { block := (A).block, off := (A).off + 3 } = some (.int .i64 m.gen) ∧ w.cell? { block := (A).block, off := (A).off + 4 } = some (.int .i64 m.job) ∧ w.cell? { block := (A).block, off := (A).off + 5 } = some (.int .i64 m.inc) ∧ w.cell? { block := (A).block, off := (A).off + 6 } = some (.int .i64 m.version) ∧ w.cell? { block := (A).block, off := (A).off + 7 } = some (.int .i64 m.epoch) ∧ w.cell? { block := (A).block, off := (A).off + 8 } = some (.int .i64 m.until_) ∧ w.cell? { block := (A).block, off := (A).off + 9 } = some (.int .i64 m.mode) ∧ w.cell? { block := (A).block, off := (A).off + 10 } = some (.int .i64 m.work)
theorem AtG.msgAt {w : World} {a : Option Addr} {l : List Msg} (h : AtG eM w a l) {k : Nat} (hk : k < l.length) : MsgAt w (adr a (k * 11)) l[k] := by
  have hj : ∀ j, j < 11 → w.cell? ((adr a (k * 11)).add j) = (eM.enc l[k])[j]? := by
    intro j hj
    have := (h k hk).2 j hj
    rw [show eM.s = 11 from rfl, ← adr_two] at this
    exact this
  exact ⟨hj 0 (by decide), hj 1 (by decide), hj 2 (by decide), hj 3 (by decide), hj 4 (by decide), hj 5 (by decide), hj 6 (by decide), hj 7 (by decide), hj 8 (by decide), hj 9 (by decide), hj 10 (by decide)⟩
theorem idxM (a : Option Addr) (n cap : Nat) (hn : 0 < n → a.isSome = true) (k : Nat) (hk : k < n) (wx : World) :
    (Instr.indexAt 38 (.slice a n cap) (.int .i64 (k : Int))).run Try.prog wx = .ok (.pointer (some (adr a (k * 11)))) wx := idxG eMok a n cap hn k k rfl hk wx
def sentOf (L : List Msg) : List Msg := L.filter Msg.right
/-- A net of such messages. -/
def nO (W : List Msg) (s : Nat) : NS := ⟨W.map fun m => ⟨m, none⟩, s⟩
theorem sentOf_step {L : List Msg} {k : Nat} (hk : k < L.length) : sentOf (L.take (k + 1)) = sentOf (L.take k) ++ if L[k].right = true then [L[k]] else [] := by
  unfold sentOf
  rw [List.take_succ_eq_append_getElem hk, List.filter_append]
  congr 1
  cases h : L[k].right <;> simp [h]
theorem sentOf_len (L : List Msg) : (sentOf L).length ≤ L.length := List.length_filter_le _ _
theorem nO_send {W : List Msg} {s : Nat} {m : Msg} (h : W.length < 40) : nSend (nO W s) m = (m.right, nO (W ++ if m.right = true then [m] else []) (s + if m.right = true then 1 else 0)) := by
  unfold nSend nO
  cases hr : m.right with
  | true => rw [if_pos ⟨by simpa using h, rfl⟩]; simp
  | false => rw [if_neg (by simp)]; simp
theorem nO_drop {W : List Msg} {s k : Nat} (h : k < W.length) : nDrop (nO W s) (k : Int) = (true, nO (W.eraseIdx k) s) := by
  unfold nDrop nO
  rw [if_pos (by simp; omega)]
  simp only [Int.toNat_natCast, List.eraseIdx_eq_take_drop_succ, List.map_append, List.map_take, List.map_drop]
theorem nO_deliver {W : List Msg} {s : Nat} {m : Msg} : nDeliver (nO (m :: W) s) 0 = (some m, nO W s) := by
  unfold nDeliver nO
  rw [if_pos ⟨Int.le_refl _, by simp⟩]
  rfl
set_option maxRecDepth 10000 in
set_option maxHeartbeats 3200000 in
theorem netOrder_law (a : Option Addr) (L : List Msg) (n cap : Nat) (lost : Int) (hlost : 0 ≤ lost ∧ lost ≤ 255) (w : World) (hn : L.length = n) (hm : n ≤ maxLen) (hA : AtG eM w a L) :
    Calls Try.prog 6 #[.slice a n cap, .int .u8 lost] w fun e w' => e = .returned (.bool true) ∧ Below w.heap.size w w' := by
  unfold maxLen at hm
  have HN := hid hn
  have HA := hid hA
  obtain ⟨X, rfl⟩ := Int.eq_ofNat_of_zero_le hlost.1
  have S0 := St.start w
  clear hn hA
  go_enter Try.func6, Try.ntmps6
  go_wp2_with fail
  refine (alive12_any _).mono ?_
  rintro e w1 ⟨rfl, hb1⟩
  have S1 := S0.grow hb1
  clear hb1 S0
  go_wp2_with fail
  all_goals (try (go_ret; exact ⟨rfl, S1.fin⟩))
  have S2 : St w (w1.alloc (.cells #[.slice none 0 0, .int .i64 0] 47)) [ownCT eM (.slice none 0 0) [], netT w1.heap.size (nO [] 0)] := (S1.netNew.nilC eM).rot
  clear S1
  go_loopw [6, 7] (fun v i wr => ∃ (k s : Nat) (a1 : Option Addr) (c1 : Nat), k ≤ n ∧ i = .int .i64 k ∧ v = .slice a1 (sentOf (L.take k)).length c1 ∧ s ≤ k ∧ St w wr [ownCT eM (.slice a1 (sentOf (L.take k)).length c1) (sentOf (L.take k)), netT w1.heap.size (nO (sentOf (L.take k)) s)]) (fun _ i _ => n - (intOf i).toNat)
  case atStart => exact ⟨0, 0, none, 0, Nat.zero_le _, rfl, rfl, Nat.le_refl _, S2⟩
  case round =>
    obtain ⟨k, s, a1, c1, hk, rfl, rfl, hs, Sk⟩ := hrel
    clear S2
    have hwl : (sentOf (L.take k)).length ≤ k := Nat.le_trans (sentOf_len _) (by rw [List.length_take]; omega)
    by_cases hlt : k < n
    · have g0 : decide ((k : Int) < (n : Int)) = true := decide_eq_true (by omega)
      have g0n : decide (k < n) = true := decide_eq_true (by omega)
      have hkl : k < L.length := by rw [HN.out]; exact hlt
      have hAk : AtG eM wr a L := HA.out.all eMok Sk.fin
      have i0 := fun wx => idxM a n cap (fun h => hAk.ok (by omega)) k hlt wx
      obtain ⟨z0, z1, z2, z3, z4, z5, z6, z7, z8, z9, z10⟩ := hAk.msgAt hkl
      have HSt := hid (sentOf_step hkl)
      obtain ⟨m, hm0⟩ : ∃ m, L[k] = m := ⟨_, rfl⟩
      rw [hm0] at z0 z1 z2 z3 z4 z5 z6 z7 z8 z9 z10 HSt
      have HM0 := hid hm0
      clear hm0 hAk
      go_wp2_with fail
      refine (hnSend Sk 1 rfl (by show s ≤ _; omega) m).mono ?_
      rintro e w3 ⟨rfl, S3⟩
      rw [nO_send (by omega)] at S3 ⊢
      clear z0 z1 z2 z3 z4 z5 z6 z7 z8 z9 z10
      by_cases hr : m.right = true
      · rw [hr] at S3 HSt ⊢
        have S3' : St w w3 [ownCT eM (.slice a1 (sentOf (L.take k)).length c1) (sentOf (L.take k)), netT w1.heap.size (nO (sentOf (L.take k) ++ [m]) (s + 1))] := S3
        clear S3
        obtain ⟨z0, z1, z2, z3, z4, z5, z6, z7, z8, z9, z10⟩ := (HA.out.all eMok S3'.fin).msgAt hkl
        rw [HM0.out] at z0 z1 z2 z3 z4 z5 z6 z7 z8 z9 z10
        obtain ⟨N, hN⟩ : ∃ N, (sentOf (L.take k)).length + 1 = N := ⟨_, rfl⟩
        have HNN := hid hN
        go_wp2_with (at_builtin; refine wpList_app (by rfl) (.tmp 28) (.tmp 33) eM.T eM.T eM.T rfl rfl _ _ rfl rfl (S3'.appC1 eMok w3.heap.size rfl 0 rfl m _ (by rfl) N HNN.out (by show _ * 88 ≤ _; omega) (by unfold maxLen; omega)) ?_; rintro v4 w4 ⟨⟨a4, c4, rfl⟩, S4⟩)
        go_roundw
        case rel => exact ⟨k + 1, s + 1, a4, c4, by omega, by go_num, by rw [HSt.out]; simp [HNN.out], by omega, by rw [HSt.out]; simpa [HNN.out] using S4⟩
        case measure => simp [intOf]; omega
      · have hr' : m.right = false := by simpa using hr
        rw [hr'] at S3 HSt ⊢
        have S3' : St w w3 [ownCT eM (.slice a1 (sentOf (L.take k)).length c1) (sentOf (L.take k)), netT w1.heap.size (nO (sentOf (L.take k)) s)] := by simpa using S3
        clear S3 hr
        go_wp2
        go_roundw
        case rel => exact ⟨k + 1, s, a1, c1, by omega, by go_num, by rw [HSt.out]; simp, by omega, by rw [HSt.out]; simpa using S3'⟩
        case measure => simp [intOf]; omega
    have g0 : decide ((k : Int) < (n : Int)) = false := decide_eq_false (by omega)
    have g0n : decide (k < n) = false := decide_eq_false (by omega)
    generalize sentOf (L.take k) = W at *
    clear hlt
    by_cases hW : W.length = 0
    · have g1 : decide ((0 : Int) < (W.length : Int)) = false := decide_eq_false (by omega)
      have g1n : decide (0 < W.length) = false := decide_eq_false (by omega)
      have HW := hid hW
      clear hW
      go_wp2_with fail
      have hW0 : W = [] := List.eq_nil_of_length_eq_zero HW.out
      subst hW0
      go_loopw [9] (fun i wr' => i = .int .i64 0 ∧ wr' = wr) (fun i _ => 0)
      case atStart => exact ⟨rfl, rfl⟩
      case round =>
        obtain ⟨rfl, rfl⟩ := hrel
        go_wp2_with fail
        refine (hnLen Sk 1 rfl).mono ?_
        rintro e w5 ⟨rfl, rfl⟩
        go_wp2
        go_ret
        exact ⟨rfl, Sk.fin⟩
    have g1 : decide ((0 : Int) < (W.length : Int)) = true := decide_eq_true (by omega)
    have g1n : decide (0 < W.length) = true := decide_eq_true (by omega)
    obtain ⟨K, hK⟩ : ∃ K, X % W.length = K := ⟨_, rfl⟩
    have hKW : K < W.length := by rw [← hK]; exact Nat.mod_lt _ (by omega)
    have tm : (X : Int).tmod (W.length : Int) = (K : Int) := by rw [← hK]; simp [Int.tmod]
    have HK := hid hK
    have hne : ¬ ((W.length : Int) = 0) := by omega
    have hneN : ¬ (W.length = 0) := hW
    have hneB : ((W.length : Int) == 0) = false := by simpa using hW
    clear hK
    go_wp2_with fail
    refine (hnDrop Sk 1 rfl (K : Int)).mono ?_
    rintro e w5 ⟨rfl, S5⟩
    rw [nO_drop hKW] at S5 ⊢
    have S5' : St w w5 [ownCT eM (.slice a1 W.length c1) W, netT w1.heap.size (nO (W.eraseIdx K) s)] := S5
    clear S5
    obtain ⟨-, q1, q2, q3, q4, q5⟩ := S5'.slC eMok 0 rfl
    have t1 : IntKind.i64.wrap ((K : Int) + 1) = ((K + 1 : Nat) : Int) := by rw [IntKind.wrap_i64]; omega
    have k1 := fun wx => cutG_m eMok a1 W.length c1 K K K rfl rfl (by omega) wx
    have k2 := fun wx => cutG_l eMok a1 W.length c1 (K + 1) ((K + 1 : Nat) : Int) rfl (by omega) q1 wx
    rw [show eM.T = 38 from rfl] at k1 k2
    have k3 : 0 ≤ (K : Int) + 1 ∧ (K : Int) + 1 ≤ (W.length : Int) := by omega
    clear q1 q2 q3 q4 q5 tm
    go_wp2_with fail
    refine wp_region_held_drew (S := (fun _ => True)) (by kernel_rfl) (by trivial) (fun hHeld => ?_)
    change wpAnyH _ _ _ _ _ 10 (Array.replicate 10 false) _ _
    refine wpAnyH_take (i := 0) (v := ?v1) (ops_at rfl) (by kernel_rfl) (by kernel_rfl) (by kernel_rfl) (fun _ _ _ h => h) (Or.inl ⟨by rfl, ?hy1⟩) (by assumption) ?rest1
    case hy1 => intro w' hSw; (try dsimp only at hSw); go_simp; try with_reducible rfl
    try simp only [Act.put, List.setIfInBounds_toArray, List.set_cons_zero, List.set_cons_succ]
    refine wpAnyH_take (i := 1) (v := ?v2) (ops_at rfl) (by kernel_rfl) (by kernel_rfl) (by kernel_rfl) (fun _ _ _ h => h) (Or.inl ⟨by rfl, ?hy2⟩) (by assumption) ?rest2
    case hy2 => intro w' hSw; (try dsimp only at hSw); go_simp; try with_reducible rfl
    try simp only [Act.put, List.setIfInBounds_toArray, List.set_cons_zero, List.set_cons_succ]
    refine wpAnyH_take (i := 2) (v := ?v3) (ops_at rfl) (by kernel_rfl) (by kernel_rfl) (by kernel_rfl) (fun _ _ _ h => h) (Or.inl ⟨by rfl, ?hy3⟩) (by assumption) ?rest3
    case hy3 => intro w' hSw; (try dsimp only at hSw); go_simp; try with_reducible rfl
    try simp only [Act.put, List.setIfInBounds_toArray, List.set_cons_zero, List.set_cons_succ]
    refine wpAnyH_take (i := 3) (v := ?v4) (ops_at rfl) (by kernel_rfl) (by kernel_rfl) (by kernel_rfl) (fun _ _ _ h => h) (Or.inl ⟨by rfl, ?hy4⟩) (by assumption) ?rest4
    case hy4 => intro w' hSw; (try dsimp only at hSw); go_simp; try with_reducible rfl
    try simp only [Act.put, List.setIfInBounds_toArray, List.set_cons_zero, List.set_cons_succ]
    refine wpAnyH_take (i := 4) (v := ?v5) (ops_at rfl) (by kernel_rfl) (by kernel_rfl) (by kernel_rfl) (fun _ _ _ h => h) (Or.inl ⟨by rfl, ?hy5⟩) (by assumption) ?rest5
    case hy5 => intro w' hSw; (try dsimp only at hSw); go_simp; try with_reducible rfl
    try simp only [Act.put, List.setIfInBounds_toArray, List.set_cons_zero, List.set_cons_succ]
    refine wpAnyH_take (i := 5) (v := ?v6) (ops_at rfl) (by kernel_rfl) (by kernel_rfl) (by kernel_rfl) (fun _ _ _ h => h) (Or.inl ⟨by rfl, ?hy6⟩) (by assumption) ?rest6
    case hy6 => intro w' hSw; (try dsimp only at hSw); go_simp; try with_reducible rfl
    try simp only [Act.put, List.setIfInBounds_toArray, List.set_cons_zero, List.set_cons_succ]
    refine wpAnyH_take (i := 6) (v := ?v7) (ops_at rfl) (by kernel_rfl) (by kernel_rfl) (by kernel_rfl) (fun _ _ _ h => h) (Or.inl ⟨by rfl, ?hy7⟩) (by assumption) ?rest7
    case hy7 => intro w' hSw; (try dsimp only at hSw); go_simp; try with_reducible rfl
    try simp only [Act.put, List.setIfInBounds_toArray, List.set_cons_zero, List.set_cons_succ]
    refine wpAnyH_take (i := 7) (v := ?v8) (ops_at rfl) (by kernel_rfl) (by kernel_rfl) (by kernel_rfl) (fun _ _ _ h => h) (Or.inl ⟨by rfl, ?hy8⟩) (by assumption) ?rest8
    case hy8 => intro w' hSw; (try dsimp only at hSw); go_simp; try with_reducible rfl
    try simp only [Act.put, List.setIfInBounds_toArray, List.set_cons_zero, List.set_cons_succ]
    refine wpAnyH_ready (rs := [8]) (by kernel_rfl) (by simp) ?_
    refine AllReadyH.cons (ops_at rfl) (fun K hK => ?_) AllReadyH.nil
    refine step_app (by rfl) (.tmp 49) (.tmp 53) eM.T eM.T eM.T rfl rfl _ _ rfl rfl (S5'.drew.cutC eMok 0 rfl hKW (W.length - 1) rfl (by show _ * 88 ≤ _; omega)) ?_
    rintro v6 w6 ⟨⟨a6, c6, rfl⟩, S6⟩
    refine hK.out _ _ (by trivial) (fun hHeld => ?_)
    clear hK K
    try simp only [Act.put, List.setIfInBounds_toArray, List.set_cons_zero, List.set_cons_succ]
    refine wpAnyH_take (i := 9) (v := ?v10) (ops_at rfl) (by kernel_rfl) (by kernel_rfl) (by kernel_rfl) (fun _ _ _ h => h) (Or.inl ⟨by rfl, ?hy10⟩) (by assumption) ?rest10
    case hy10 => intro w' hSw; (try dsimp only at hSw); go_simp; try with_reducible rfl
    try simp only [Act.put, List.setIfInBounds_toArray, List.set_cons_zero, List.set_cons_succ]
    refine wpAnyH_done (by kernel_rfl) ?_ _
    have hel : (W.eraseIdx K).length = W.length - 1 := List.length_eraseIdx_of_lt hKW
    have S6' : St w w6 [ownCT eM (.slice a6 (W.length - 1) c6) (W.eraseIdx K), netT w1.heap.size (nO (W.eraseIdx K) s)] := S6
    clear S6 S5' k1 k2 k3 Sk
    generalize hM1 : W.length - 1 = M at *
    generalize hW2 : W.eraseIdx K = V at *
    have hM40 : M ≤ 1000 := by have := sentOf_len L; omega
    clear hM1 hW2
    clear g1 g1n hKW hne hneN hneB t1 HK hwl hW
    generalize (if c1 = K + 1 then a1 else Option.map (fun x => x.add ((K + 1) * 11)) a1) = q
    go_wp2_with fail
    go_loopw [9] (fun i wr' => ∃ j : Nat, j ≤ M ∧ i = .int .i64 j ∧ St w wr' [ownCT eM (.slice a6 M c6) V, netT w1.heap.size (nO (V.drop j) s)]) (fun i _ => M - (intOf i).toNat)
    case atStart => exact ⟨0, Nat.zero_le _, rfl, S6'⟩
    case round =>
      obtain ⟨j, hj, rfl, Sj⟩ := hrel
      clear S6'
      by_cases hlt : j < M
      · have g0 : decide ((j : Int) < (M : Int)) = true := decide_eq_true (by omega)
        have g0n : decide (j < M) = true := decide_eq_true (by omega)
        have hjV : j < V.length := by omega
        have hdr := List.drop_eq_getElem_cons hjV
        obtain ⟨m, hm0⟩ : ∃ m, V[j] = m := ⟨_, rfl⟩
        rw [hm0] at hdr
        have HM0 := hid hm0
        rw [hdr] at Sj
        clear hm0 hdr
        go_wp2_with fail
        refine (hnDeliver Sj 1 rfl 0).mono ?_
        rintro e w7 ⟨hp, S7⟩
        rw [nO_deliver] at hp S7
        simp only [GetMPost] at hp
        subst hp
        have S8 : St w (w7.alloc (.cells #[.int .i64 m.node, .int .i64 m.kind, .int .i64 m.term, .int .i64 m.gen, .int .i64 m.job, .int .i64 m.inc, .int .i64 m.version, .int .i64 m.epoch, .int .i64 m.until_, .int .i64 m.mode, .int .i64 m.work] 23)) [ownCT eM (.slice a6 M c6) V, netT w1.heap.size (nO (V.drop (j + 1)) s), cellsT w7.heap.size 23 m.cs] := St.newAt S7 _ _ _ rfl
        clear S7 Sj
        obtain ⟨y0, y1, y2, y3, y4, y5, y6, y7, y8, y9, y10⟩ := S8.msg 2 rfl
        have hat := (S8.slC eMok 0 rfl).2.2.2.2.1
        have i0 := fun wx => idxM a6 M c6 (fun h => hat.ok (by omega)) j hlt wx
        obtain ⟨z0, z1, z2, z3, z4, z5, z6, z7, z8, z9, z10⟩ := hat.msgAt hjV
        rw [HM0.out] at z0 z1 z2 z3 z4 z5 z6 z7 z8 z9 z10
        clear hat
        have q1 := fun wx => neM m m wx
        rw [Msg.eq_self] at q1
        generalize adr a6 (j * 11) = A at *
        go_wp2_with fail
        refine wp_region_held_drew (S := (fun w' => (w'.cell? A = some (.int .i64 m.node) ∧ w'.cell? { block := A.block, off := A.off + 1 } = some (.int .i64 m.kind) ∧ w'.cell? { block := A.block, off := A.off + 2 } = some (.int .i64 m.term) ∧ w'.cell? { block := A.block, off := A.off + 3 } = some (.int .i64 m.gen) ∧ w'.cell? { block := A.block, off := A.off + 4 } = some (.int .i64 m.job) ∧ w'.cell? { block := A.block, off := A.off + 5 } = some (.int .i64 m.inc) ∧ w'.cell? { block := A.block, off := A.off + 6 } = some (.int .i64 m.version) ∧ w'.cell? { block := A.block, off := A.off + 7 } = some (.int .i64 m.epoch) ∧ w'.cell? { block := A.block, off := A.off + 8 } = some (.int .i64 m.until_) ∧ w'.cell? { block := A.block, off := A.off + 9 } = some (.int .i64 m.mode) ∧ w'.cell? { block := A.block, off := A.off + 10 } = some (.int .i64 m.work)) ∧ (w'.cell? ⟨w7.heap.size, 0, none⟩ = some (.int .i64 m.node) ∧ w'.cell? ⟨w7.heap.size, 1, none⟩ = some (.int .i64 m.kind) ∧ w'.cell? ⟨w7.heap.size, 2, none⟩ = some (.int .i64 m.term) ∧ w'.cell? ⟨w7.heap.size, 3, none⟩ = some (.int .i64 m.gen) ∧ w'.cell? ⟨w7.heap.size, 4, none⟩ = some (.int .i64 m.job) ∧ w'.cell? ⟨w7.heap.size, 5, none⟩ = some (.int .i64 m.inc) ∧ w'.cell? ⟨w7.heap.size, 6, none⟩ = some (.int .i64 m.version) ∧ w'.cell? ⟨w7.heap.size, 7, none⟩ = some (.int .i64 m.epoch) ∧ w'.cell? ⟨w7.heap.size, 8, none⟩ = some (.int .i64 m.until_) ∧ w'.cell? ⟨w7.heap.size, 9, none⟩ = some (.int .i64 m.mode) ∧ w'.cell? ⟨w7.heap.size, 10, none⟩ = some (.int .i64 m.work)))) (by kernel_rfl) (by exact ⟨⟨z0, z1, z2, z3, z4, z5, z6, z7, z8, z9, z10⟩, y0, y1, y2, y3, y4, y5, y6, y7, y8, y9, y10⟩) (fun hHeld => ?_)
        change wpAnyH _ _ _ _ _ 10 (Array.replicate 10 false) _ _
        refine wpAnyH_take (i := 0) (v := ?v11) (ops_at rfl) (by kernel_rfl) (by kernel_rfl) (by kernel_rfl) (fun _ _ _ h => h) (Or.inl ⟨by rfl, ?hy11⟩) (by assumption) ?rest11
        case hy11 => intro w' hSw; (try dsimp only at hSw); go_simp; try with_reducible rfl
        try simp only [Act.put, List.setIfInBounds_toArray, List.set_cons_zero, List.set_cons_succ]
        refine wpAnyH_take (i := 1) (v := ?v12) (ops_at rfl) (by kernel_rfl) (by kernel_rfl) (by kernel_rfl) (fun _ _ _ h => h) (Or.inl ⟨by rfl, ?hy12⟩) (by assumption) ?rest12
        case hy12 => intro w' hSw; (try dsimp only at hSw); go_simp; try with_reducible rfl
        try simp only [Act.put, List.setIfInBounds_toArray, List.set_cons_zero, List.set_cons_succ]
        refine wpAnyH_take (i := 2) (v := ?v13) (ops_at rfl) (by kernel_rfl) (by kernel_rfl) (by kernel_rfl) (fun _ _ _ h => h) (Or.inl ⟨by rfl, ?hy13⟩) (by assumption) ?rest13
        case hy13 => intro w' hSw; (try dsimp only at hSw); go_simp; try with_reducible rfl
        try simp only [Act.put, List.setIfInBounds_toArray, List.set_cons_zero, List.set_cons_succ]
        refine wpAnyH_take (i := 3) (v := ?v14) (ops_at rfl) (by kernel_rfl) (by kernel_rfl) (by kernel_rfl) (fun _ _ _ h => h) (Or.inl ⟨by rfl, ?hy14⟩) (by assumption) ?rest14
        case hy14 => intro w' hSw; (try dsimp only at hSw); go_simp; try with_reducible rfl
        try simp only [Act.put, List.setIfInBounds_toArray, List.set_cons_zero, List.set_cons_succ]
        refine wpAnyH_take (i := 4) (v := ?v15) (ops_at rfl) (by kernel_rfl) (by kernel_rfl) (by kernel_rfl) (fun _ _ _ h => h) (Or.inl ⟨by rfl, ?hy15⟩) (by assumption) ?rest15
        case hy15 => intro w' hSw; (try dsimp only at hSw); go_simp; try with_reducible rfl
        try simp only [Act.put, List.setIfInBounds_toArray, List.set_cons_zero, List.set_cons_succ]
        refine wpAnyH_take (i := 5) (v := ?v16) (ops_at rfl) (by kernel_rfl) (by kernel_rfl) (by kernel_rfl) (fun _ _ _ h => h) (Or.inl ⟨by rfl, ?hy16⟩) (by assumption) ?rest16
        case hy16 => intro w' hSw; (try dsimp only at hSw); go_simp; try with_reducible rfl
        try simp only [Act.put, List.setIfInBounds_toArray, List.set_cons_zero, List.set_cons_succ]
        refine wpAnyH_take (i := 6) (v := ?v17) (ops_at rfl) (by kernel_rfl) (by kernel_rfl) (by kernel_rfl) (fun _ _ _ h => h) (Or.inl ⟨by rfl, ?hy17⟩) (by assumption) ?rest17
        case hy17 => intro w' hSw; (try dsimp only at hSw); go_simp; try with_reducible rfl
        try simp only [Act.put, List.setIfInBounds_toArray, List.set_cons_zero, List.set_cons_succ]
        refine wpAnyH_take (i := 7) (v := ?v18) (ops_at rfl) (by kernel_rfl) (by kernel_rfl) (by kernel_rfl) (fun _ _ _ h => h) (Or.inl ⟨by rfl, ?hy18⟩) (by assumption) ?rest18
        case hy18 => intro w' hSw; (try dsimp only at hSw); go_simp; try with_reducible rfl
        try simp only [Act.put, List.setIfInBounds_toArray, List.set_cons_zero, List.set_cons_succ]
        refine wpAnyH_take (i := 8) (v := ?v19) (ops_at rfl) (by kernel_rfl) (by kernel_rfl) (by kernel_rfl) (fun _ _ _ h => h) (Or.inl ⟨by rfl, ?hy19⟩) (by assumption) ?rest19
        case hy19 => intro w' hSw; (try dsimp only at hSw); go_simp; try with_reducible rfl
        try simp only [Act.put, List.setIfInBounds_toArray, List.set_cons_zero, List.set_cons_succ]
        refine wpAnyH_take (i := 9) (v := ?v20) (ops_at rfl) (by kernel_rfl) (by kernel_rfl) (by kernel_rfl) (fun _ _ _ h => h) (Or.inl ⟨by rfl, ?hy20⟩) (by assumption) ?rest20
        case hy20 => intro w' hSw; (try dsimp only at hSw); go_simp; try with_reducible rfl
        try simp only [Act.put, List.setIfInBounds_toArray, List.set_cons_zero, List.set_cons_succ]
        refine wpAnyH_done (by kernel_rfl) ?_ _
        go_wp2
        go_roundw
        case rel => exact ⟨j + 1, by omega, by go_num, S8.drew.take 2⟩
        case measure => simp [intOf]; omega
      · have g0 : decide ((j : Int) < (M : Int)) = false := decide_eq_false (by omega)
        have g0n : decide (j < M) = false := decide_eq_false (by omega)
        have hd : V.drop j = [] := List.drop_of_length_le (by omega)
        rw [hd] at Sj
        clear hlt hd
        go_wp2_with fail
        refine (hnLen Sj 1 rfl).mono ?_
        rintro e w7 ⟨rfl, rfl⟩
        go_wp2
        go_ret
        exact ⟨rfl, Sj.fin⟩

end Go.Proofs.Ytjibmbejfpdifaa
