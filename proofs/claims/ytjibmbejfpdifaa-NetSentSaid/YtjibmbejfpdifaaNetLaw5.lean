/- NetSent. -/
import Derived.Test.YtjibmbejfpdifaaNetActs
namespace Go.Proofs.Ytjibmbejfpdifaa
set_option linter.unusedVariables false
set_option linter.unusedSimpArgs false
open Go.RowKit
/-- What was sent and got. -/
structure NInv (s : NS) (T G : List Msg) (D k : Nat) : Prop where
  from_ : ∀ x ∈ s.l, x.m ∈ T
  got : ∀ y ∈ G, y ∈ T
  sum : s.l.length + G.length ≤ T.length + D
  t : T.length ≤ k
  d : D ≤ k
  g : G.length ≤ k
  s : s.sent ≤ k
theorem NInv.step {s : NS} {T G : List Msg} {D k : Nat} (h : NInv s T G D k) : NInv s T G D (k + 1) := ⟨h.from_, h.got, h.sum, Nat.le_succ_of_le h.t, Nat.le_succ_of_le h.d, Nat.le_succ_of_le h.g, Nat.le_succ_of_le h.s⟩
theorem NInv.send {s : NS} {T G : List Msg} {D k : Nat} (h : NInv s T G D k) (m : Msg) : NInv (nSend s m).2 (if (nSend s m).1 = true then T ++ [m] else T) G D (k + 1) := by
  unfold nSend
  split
  · have h1 := h.sum; have h2 := h.t; have h3 := h.s
    refine ⟨?_, ?_, ?_, ?_, Nat.le_succ_of_le h.d, Nat.le_succ_of_le h.g, ?_⟩
    · intro x hx
      simp only [if_true]
      rcases List.mem_append.1 hx with hx | hx
      · exact List.mem_append_left _ (h.from_ x hx)
      · simp at hx; subst hx; simp
    · intro y hy
      simp only [if_true]
      exact List.mem_append_left _ (h.got y hy)
    · simp; omega
    · simp; omega
    · show s.sent + 1 ≤ k + 1; omega
  · simpa using h.step
theorem NInv.drop {s : NS} {T G : List Msg} {D k : Nat} (h : NInv s T G D k) (i : Int) : NInv (nDrop s i).2 T G D (k + 1) := by
  unfold nDrop
  split
  · have h1 := h.sum
    have h2 : (s.l.eraseIdx i.toNat).length ≤ s.l.length := by rw [List.length_eraseIdx]; split <;> omega
    exact ⟨fun x hx => h.from_ x (List.mem_of_mem_eraseIdx hx), h.got, by show (s.l.eraseIdx i.toNat).length + _ ≤ _; omega, Nat.le_succ_of_le h.t, Nat.le_succ_of_le h.d, Nat.le_succ_of_le h.g, Nat.le_succ_of_le h.s⟩
  · exact h.step
theorem NInv.deliver {s : NS} {T G : List Msg} {D k : Nat} (h : NInv s T G D k) (i : Int) : NInv (nDeliver s i).2 T (G ++ (nDeliver s i).1.toList) D (k + 1) := by
  unfold nDeliver
  split
  · rename_i hc
    have hi : i.toNat < s.l.length := by omega
    have h1 := h.sum; have h3 := h.g
    have h2 : (s.l.eraseIdx i.toNat).length = s.l.length - 1 := List.length_eraseIdx_of_lt hi
    have h4 : (s.l.getD i.toNat NM.nil).shown.toList.length ≤ 1 := by cases (s.l.getD i.toNat NM.nil).shown <;> simp
    refine ⟨fun x hx => h.from_ x (List.mem_of_mem_eraseIdx hx), ?_, ?_, Nat.le_succ_of_le h.t, Nat.le_succ_of_le h.d, ?_, Nat.le_succ_of_le h.s⟩
    · intro y hy
      rcases List.mem_append.1 hy with hy | hy
      · exact h.got y hy
      · rw [getD_at hi] at hy
        have hx := h.from_ _ (List.getElem_mem hi)
        unfold NM.shown at hy
        split at hy
        · simp at hy; subst hy; exact hx
        · simp at hy
    · show (s.l.eraseIdx i.toNat).length + (G ++ (s.l.getD i.toNat NM.nil).shown.toList).length ≤ _
      rw [List.length_append]; omega
    · rw [List.length_append]; show G.length + (s.l.getD i.toNat NM.nil).shown.toList.length ≤ k + 1; omega
  · simpa using h.step
theorem NInv.twice {s : NS} {T G : List Msg} {D k : Nat} (h : NInv s T G D k) (i : Int) : NInv (nTwice s i).2 T G (if (nTwice s i).1 = true then D + 1 else D) (k + 1) := by
  unfold nTwice
  split
  · rename_i hc
    have hi : i.toNat < s.l.length := by omega
    have h1 := h.sum; have h2 := h.d
    refine ⟨?_, h.got, ?_, Nat.le_succ_of_le h.t, ?_, Nat.le_succ_of_le h.g, Nat.le_succ_of_le h.s⟩
    · intro x hx
      rcases List.mem_append.1 hx with hx | hx
      · exact h.from_ x hx
      · rw [getD_at hi] at hx; simp at hx; subst hx; exact h.from_ _ (List.getElem_mem hi)
    · simp; omega
    · simp; omega
  · simpa using h.step
theorem NInv.flip {s : NS} {T G : List Msg} {D k : Nat} (h : NInv s T G D k) (i b : Int) : NInv (nFlip s i b).2 T G D (k + 1) := by
  unfold nFlip
  split
  · rename_i hc
    have hi : i.toNat < s.l.length := by omega
    have h1 := h.sum
    refine ⟨?_, h.got, by simp only [List.length_set]; omega, Nat.le_succ_of_le h.t, Nat.le_succ_of_le h.d, Nat.le_succ_of_le h.g, Nat.le_succ_of_le h.s⟩
    intro x hx
    rcases List.mem_or_eq_of_mem_set hx with hx | hx
    · exact h.from_ x hx
    · subst hx
      show (s.l.getD i.toNat NM.nil).m ∈ T
      rw [getD_at hi]
      exact h.from_ _ (List.getElem_mem hi)
  · exact h.step
def cntM (T : List Msg) (z : Msg) (p : Nat) : Nat := ((T.take p).filter fun y => y.eq z).length
theorem cntM_step {T : List Msg} {z : Msg} {p : Nat} (h : p < T.length) : cntM T z (p + 1) = cntM T z p + if T[p].eq z = true then 1 else 0 := by
  unfold cntM
  rw [List.take_succ_eq_append_getElem h, List.filter_append, List.length_append]
  congr 1
  cases h : T[p].eq z <;> simp [h]
theorem cntM_pos {T : List Msg} {z : Msg} (h : z ∈ T) : 0 < cntM T z T.length := by
  unfold cntM
  rw [List.take_length]
  exact List.length_pos_of_mem (List.mem_filter.2 ⟨h, Msg.eq_self z⟩)
theorem cntM_le (T : List Msg) (z : Msg) (p : Nat) : cntM T z p ≤ p := by
  unfold cntM
  exact Nat.le_trans (List.length_filter_le _ _) (by rw [List.length_take]; omega)
set_option maxRecDepth 10000 in
set_option maxHeartbeats 6400000 in
theorem netSent_law (a : Option Addr) (L : List NAct) (n cap : Nat) (w : World) (hn : L.length = n) (hm : n ≤ maxLen) (hA : AtG eNA w a L) (hok : ∀ x ∈ L, x.Ok) :
    Calls Try.prog 5 #[.slice a n cap] w fun e w' => e = .returned (.bool true) ∧ Below w.heap.size w w' := by
  unfold maxLen at hm
  have HN := hid hn
  have HA := hid hA
  have HOk := hid hok
  have S0 := St.start w
  clear hn hA hok
  go_enter Try.func5, Try.ntmps5
  go_wp2_with fail
  refine (alive12_any _).mono ?_
  rintro e w1 ⟨rfl, hb1⟩
  have S1 := S0.grow hb1
  clear hb1 S0
  go_wp2_with fail
  all_goals (try (go_ret; exact ⟨rfl, S1.fin⟩))
  have S2 : St w (w1.alloc (.cells #[.slice none 0 0, .int .i64 0] 47)) [netT w1.heap.size ⟨[], 0⟩, ownT eM (.slice none 0 0) [], ownT eM (.slice none 0 0) []] := (S1.netNew.nilG eM).nilG eM
  clear S1
  go_loopw [4, 5, 6, 7] (fun v q dd i wr => ∃ (k D nT nG : Nat) (s : NS) (T G : List Msg) (aT aG : Option Addr) (cT cG : Nat), k ≤ n ∧ i = .int .i64 k ∧ dd = .int .i64 D ∧ v = .slice aT nT cT ∧ q = .slice aG nG cG ∧ NInv s T G D k ∧ St w wr [netT w1.heap.size s, ownT eM (.slice aT nT cT) T, ownT eM (.slice aG nG cG) G]) (fun _ _ _ i _ => n - (intOf i).toNat)
  case atStart => exact ⟨0, 0, 0, 0, ⟨[], 0⟩, [], [], none, none, 0, 0, Nat.zero_le _, rfl, rfl, rfl, rfl, ⟨by simp, by simp, by simp, by simp, by simp, by simp, by simp⟩, S2⟩
  case round =>
    obtain ⟨k, D, nT, nG, s, T, G, aT, aG, cT, cG, hk, rfl, rfl, rfl, rfl, hI, Sk⟩ := hrel
    clear S2
    have HI := hid hI
    have hT := hid (Sk.slG eMok 1 rfl).1
    have hG := hid (Sk.slG eMok 2 rfl).1
    have hTk : nT ≤ k := by have := hI.t; have := hT.out; omega
    have hGk : nG ≤ k := by have := hI.g; have := hG.out; omega
    have hDk : D ≤ k := hI.d
    have hsk : s.sent ≤ k := hI.s
    clear hI
    by_cases hlt : k < n
    case neg =>
      have g0 : decide ((k : Int) < (n : Int)) = false := decide_eq_false (by omega)
      have g0n : decide (k < n) = false := decide_eq_false (by omega)
      clear hlt
      go_wp2_with fail
      go_loopw [11] (fun i wr' => ∃ j : Nat, j ≤ nG ∧ i = .int .i64 j ∧ St w wr' [netT w1.heap.size s, ownT eM (.slice aT nT cT) T, ownT eM (.slice aG nG cG) G]) (fun i _ => nG - (intOf i).toNat)
      case atStart => exact ⟨0, Nat.zero_le _, rfl, Sk⟩
      case round =>
        obtain ⟨j, hj, rfl, Sj⟩ := hrel
        clear Sk
        by_cases hlt : j < nG
        case neg =>
          have g1 : decide ((j : Int) < (nG : Int)) = false := decide_eq_false (by omega)
          have g1n : decide (j < nG) = false := decide_eq_false (by omega)
          have l3 : decide ((nG : Int) + (s.l.length : Int) ≤ (nT : Int) + (D : Int)) = true := decide_eq_true (by have := HI.out.sum; have := hT.out; have := hG.out; omega)
          have l3n : decide (nG + s.l.length ≤ nT + D) = true := decide_eq_true (by have := HI.out.sum; have := hT.out; have := hG.out; omega)
          have hl40 := (Sj.netOk 0 rfl).1
          clear hlt
          go_wp2_with fail
          refine (hnLen Sj 0 rfl).mono ?_
          rintro e w5 ⟨rfl, rfl⟩
          go_wp2
          go_ret
          exact ⟨rfl, Sj.fin⟩
        have g1 : decide ((j : Int) < (nG : Int)) = true := decide_eq_true (by omega)
        have g1n : decide (j < nG) = true := decide_eq_true (by omega)
        have hjG : j < G.length := by rw [hG.out]; exact hlt
        obtain ⟨z, hz⟩ : ∃ z, G[j] = z := ⟨_, rfl⟩
        have HZ := hid hz
        have hpos : 0 < cntM T z nT := by
          have := cntM_pos (HI.out.got _ (List.getElem_mem hjG))
          rwa [hz, hT.out] at this
        have HPos := hid hpos
        clear hz hpos
        go_wp2_with fail
        go_loopw [12, 13] (fun q i wr'' => ∃ p : Nat, p ≤ nT ∧ i = .int .i64 p ∧ q = .int .i64 (cntM T z p : Int) ∧ St w wr'' [netT w1.heap.size s, ownT eM (.slice aT nT cT) T, ownT eM (.slice aG nG cG) G]) (fun _ i _ => nT - (intOf i).toNat)
        case atStart => exact ⟨0, Nat.zero_le _, rfl, by simp [cntM], Sj⟩
        case round =>
          obtain ⟨p, hp, rfl, rfl, Sp⟩ := hrel
          clear Sj
          have hcl := cntM_le T z p
          by_cases hlp : p < nT
          case neg =>
            have g2 : decide ((p : Int) < (nT : Int)) = false := decide_eq_false (by omega)
            have g2n : decide (p < nT) = false := decide_eq_false (by omega)
            have ep : p = nT := by omega
            subst ep
            obtain ⟨c, hc⟩ : ∃ c, cntM T z p = c := ⟨_, rfl⟩
            have hc0 := HPos.out
            rw [hc] at hc0 ⊢
            have g3 : ((c : Int) == 0) = false := by simp; omega
            have g3n : (c == 0) = false := by simp; omega
            clear hc hlp hp hcl
            go_wp2
            go_roundw
            case rel => exact ⟨j + 1, by omega, by go_num, Sp⟩
            case measure => simp [intOf]; omega
          have g2 : decide ((p : Int) < (nT : Int)) = true := decide_eq_true (by omega)
          have g2n : decide (p < nT) = true := decide_eq_true (by omega)
          have hpT : p < T.length := by rw [hT.out]; exact hlp
          have hA1 := (Sp.slG eMok 1 rfl).2.2.2.2
          have hA2 := (Sp.slG eMok 2 rfl).2.2.2.2
          have i1 := fun wx => idxM aT nT cT (fun h => hA1.ok (by omega)) p hlp wx
          have i2 := fun wx => idxM aG nG cG (fun h => hA2.ok (by omega)) j hlt wx
          obtain ⟨x0, x1, x2, x3, x4, x5, x6, x7, x8, x9, x10⟩ := hA1.msgAt hpT
          obtain ⟨z0, z1, z2, z3, z4, z5, z6, z7, z8, z9, z10⟩ := hA2.msgAt hjG
          rw [HZ.out] at z0 z1 z2 z3 z4 z5 z6 z7 z8 z9 z10
          have HSt := hid (cntM_step (z := z) hpT)
          generalize T[p] = y at *
          generalize adr aT (p * 11) = A at *
          generalize adr aG (j * 11) = B at *
          have q1 := fun wx => eqM y z wx
          generalize hyz : y.eq z = t at *
          generalize hcc : cntM T z p = c at *
          have HCC := hid hcc
          have HYZ := hid hyz
          clear hA1 hA2 hcc hyz
          go_wp2_with fail
          refine wp_region_held_drew (S := (fun w' => (w'.cell? A = some (.int .i64 y.node) ∧ w'.cell? { block := A.block, off := A.off + 1 } = some (.int .i64 y.kind) ∧ w'.cell? { block := A.block, off := A.off + 2 } = some (.int .i64 y.term) ∧ w'.cell? { block := A.block, off := A.off + 3 } = some (.int .i64 y.gen) ∧ w'.cell? { block := A.block, off := A.off + 4 } = some (.int .i64 y.job) ∧ w'.cell? { block := A.block, off := A.off + 5 } = some (.int .i64 y.inc) ∧ w'.cell? { block := A.block, off := A.off + 6 } = some (.int .i64 y.version) ∧ w'.cell? { block := A.block, off := A.off + 7 } = some (.int .i64 y.epoch) ∧ w'.cell? { block := A.block, off := A.off + 8 } = some (.int .i64 y.until_) ∧ w'.cell? { block := A.block, off := A.off + 9 } = some (.int .i64 y.mode) ∧ w'.cell? { block := A.block, off := A.off + 10 } = some (.int .i64 y.work)) ∧ (w'.cell? B = some (.int .i64 z.node) ∧ w'.cell? { block := B.block, off := B.off + 1 } = some (.int .i64 z.kind) ∧ w'.cell? { block := B.block, off := B.off + 2 } = some (.int .i64 z.term) ∧ w'.cell? { block := B.block, off := B.off + 3 } = some (.int .i64 z.gen) ∧ w'.cell? { block := B.block, off := B.off + 4 } = some (.int .i64 z.job) ∧ w'.cell? { block := B.block, off := B.off + 5 } = some (.int .i64 z.inc) ∧ w'.cell? { block := B.block, off := B.off + 6 } = some (.int .i64 z.version) ∧ w'.cell? { block := B.block, off := B.off + 7 } = some (.int .i64 z.epoch) ∧ w'.cell? { block := B.block, off := B.off + 8 } = some (.int .i64 z.until_) ∧ w'.cell? { block := B.block, off := B.off + 9 } = some (.int .i64 z.mode) ∧ w'.cell? { block := B.block, off := B.off + 10 } = some (.int .i64 z.work)))) (by kernel_rfl) (by exact ⟨⟨x0, x1, x2, x3, x4, x5, x6, x7, x8, x9, x10⟩, z0, z1, z2, z3, z4, z5, z6, z7, z8, z9, z10⟩) (fun hHeld => ?_)
          change wpAnyH _ _ _ _ _ 9 (Array.replicate 9 false) _ _
          refine wpAnyH_take (i := 0) (v := ?v1) (ops_at rfl) (by kernel_rfl) (by kernel_rfl) (by kernel_rfl) (fun _ _ _ h => h) (Or.inl ⟨by rfl, ?hy1⟩) (by assumption) ?rest1
          case hy1 => intro w' hSw; (try dsimp only at hSw); go_simp; try with_reducible rfl
          try simp only [Act.put, List.setIfInBounds_toArray, List.set_cons_zero, List.set_cons_succ]
          refine wpAnyH_take (i := 1) (v := ?v2) (ops_at rfl) (by kernel_rfl) (by kernel_rfl) (by kernel_rfl) (fun _ _ _ h => h) (Or.inl ⟨by rfl, ?hy2⟩) (by assumption) ?rest2
          case hy2 => intro w' hSw; (try dsimp only at hSw); go_simp; try with_reducible rfl
          try simp only [Act.put, List.setIfInBounds_toArray, List.set_cons_zero, List.set_cons_succ]
          refine wpAnyH_take (i := 2) (v := ?v3) (ops_at rfl) (by kernel_rfl) (by kernel_rfl) (by kernel_rfl) (fun _ _ _ h => h) (Or.inl ⟨by rfl, ?hy3⟩) (by assumption) ?rest3
          case hy3 => intro w' hSw; (try dsimp only at hSw); go_simp; try with_reducible rfl
          try simp only [Act.put, List.setIfInBounds_toArray, List.set_cons_zero, List.set_cons_succ]
          refine wpAnyH_take (i := 3) (v := ?v4) (ops_at rfl) (by kernel_rfl) (by kernel_rfl) (by kernel_rfl) (fun _ _ _ h => h) (Or.inl ⟨by rfl, ?hy4⟩) (by assumption) ?rest4
          case hy4 => intro w' hSw; (try dsimp only at hSw); go_simp; try with_reducible rfl
          try simp only [Act.put, List.setIfInBounds_toArray, List.set_cons_zero, List.set_cons_succ]
          refine wpAnyH_take (i := 4) (v := ?v5) (ops_at rfl) (by kernel_rfl) (by kernel_rfl) (by kernel_rfl) (fun _ _ _ h => h) (Or.inl ⟨by rfl, ?hy5⟩) (by assumption) ?rest5
          case hy5 => intro w' hSw; (try dsimp only at hSw); go_simp; try with_reducible rfl
          try simp only [Act.put, List.setIfInBounds_toArray, List.set_cons_zero, List.set_cons_succ]
          refine wpAnyH_take (i := 5) (v := ?v6) (ops_at rfl) (by kernel_rfl) (by kernel_rfl) (by kernel_rfl) (fun _ _ _ h => h) (Or.inl ⟨by rfl, ?hy6⟩) (by assumption) ?rest6
          case hy6 => intro w' hSw; (try dsimp only at hSw); go_simp; try with_reducible rfl
          try simp only [Act.put, List.setIfInBounds_toArray, List.set_cons_zero, List.set_cons_succ]
          refine wpAnyH_take (i := 6) (v := ?v7) (ops_at rfl) (by kernel_rfl) (by kernel_rfl) (by kernel_rfl) (fun _ _ _ h => h) (Or.inl ⟨by rfl, ?hy7⟩) (by assumption) ?rest7
          case hy7 => intro w' hSw; (try dsimp only at hSw); go_simp; try with_reducible rfl
          try simp only [Act.put, List.setIfInBounds_toArray, List.set_cons_zero, List.set_cons_succ]
          refine wpAnyH_take (i := 7) (v := ?v8) (ops_at rfl) (by kernel_rfl) (by kernel_rfl) (by kernel_rfl) (fun _ _ _ h => h) (Or.inl ⟨by rfl, ?hy8⟩) (by assumption) ?rest8
          case hy8 => intro w' hSw; (try dsimp only at hSw); go_simp; try with_reducible rfl
          try simp only [Act.put, List.setIfInBounds_toArray, List.set_cons_zero, List.set_cons_succ]
          refine wpAnyH_take (i := 8) (v := ?v9) (ops_at rfl) (by kernel_rfl) (by kernel_rfl) (by kernel_rfl) (fun _ _ _ h => h) (Or.inl ⟨by rfl, ?hy9⟩) (by assumption) ?rest9
          case hy9 => intro w' hSw; (try dsimp only at hSw); go_simp; try with_reducible rfl
          try simp only [Act.put, List.setIfInBounds_toArray, List.set_cons_zero, List.set_cons_succ]
          refine wpAnyH_done (by kernel_rfl) ?_ _
          cases t
          · go_wp2
            go_roundw
            case rel => exact ⟨p + 1, by omega, by go_num, by rw [HSt.out]; simp, Sp.drew⟩
            case measure => simp [intOf]; omega
          · go_wp2
            go_roundw
            case rel => exact ⟨p + 1, by omega, by go_num, by rw [HSt.out]; go_num, Sp.drew⟩
            case measure => simp [intOf]; omega
    have g0 : decide ((k : Int) < (n : Int)) = true := decide_eq_true (by omega)
    have g0n : decide (k < n) = true := decide_eq_true (by omega)
    have hkl : k < L.length := by rw [HN.out]; exact hlt
    have hAk : AtG eNA wr a L := HA.out.all eNAok Sk.fin
    have i0 := fun wx => idxNA a n cap (fun h => hAk.ok (by omega)) k hlt wx
    obtain ⟨y0, y1, y2, y3, y4, y5, y6, y7, y8, y9, y10, y11, y12, y13⟩ := hAk.actAt hkl
    have hbit := (HOk.out _ (List.getElem_mem hkl)).bit1
    generalize L[k] = x at *
    generalize adr a (k * 14) = A at *
    have S5 : St w (wr.alloc (.cells #[.int .i64 x.kind, .int .i64 x.i, .int .i64 x.bit, .int .i64 x.m.node, .int .i64 x.m.kind, .int .i64 x.m.term, .int .i64 x.m.gen, .int .i64 x.m.job, .int .i64 x.m.inc, .int .i64 x.m.version, .int .i64 x.m.epoch, .int .i64 x.m.until_, .int .i64 x.m.mode, .int .i64 x.m.work] 52)) [netT w1.heap.size s, ownT eM (.slice aT nT cT) T, ownT eM (.slice aG nG cG) G, cellsT wr.heap.size 52 x.cs] := Sk.newAt _ _ _ rfl
    clear Sk hAk
    by_cases hk0 : x.kind = 0
    · have g1 : (x.kind == 0) = true := by simpa using hk0
      clear hk0
      go_wp2_with fail
      refine (hnSend S5 0 rfl (by omega) x.m).mono ?_
      rintro e w6 ⟨rfl, S6⟩
      clear y0 y1 y2 y3 y4 y5 y6 y7 y8 y9 y10 y11 y12 y13
      have hI6 := HI.out.send x.m
      obtain ⟨q, hq⟩ : ∃ q, nSend s x.m = q := ⟨_, rfl⟩
      rw [hq] at S6 hI6 ⊢
      obtain ⟨qb, s9⟩ := q
      have S6' : St w w6 [netT w1.heap.size s9, ownT eM (.slice aT nT cT) T, ownT eM (.slice aG nG cG) G, cellsT wr.heap.size 52 x.cs] := S6
      clear S6 S5 hq
      obtain ⟨z0, z1, z2, z3, z4, z5, z6, z7, z8, z9, z10, z11, z12, z13⟩ := S6'.act 3 rfl
      cases qb
      · have HI9 : Hid (NInv s9 T G D (k + 1)) := by simpa [Hid] using hI6
        have S9 := S6'.take 3
        clear hI6 S6'
        go_wp2_with fail
        have hN9 := S9.netOk 0 rfl
        have hl9 := hN9.1
        have hT9 := (S9.slG eMok 1 rfl).1
        have hG9 := (S9.slG eMok 2 rfl).1
        have l1 : decide ((40 : Int) < (s9.l.length : Int)) = false := decide_eq_false (by omega)
        have l1n : decide (40 < s9.l.length) = false := decide_eq_false (by omega)
        have b1 := HI9.out.t
        have b2 := HI9.out.d
        have b3 := HI9.out.sum
        have l2 : decide ((nT : Int) + (D : Int) < (s9.l.length : Int)) = false := decide_eq_false (by omega)
        have l2n : decide (nT + D < s9.l.length) = false := decide_eq_false (by omega)
        rw [hT9] at b1
        clear b3 hN9 hT9 hG9 hl9
        refine (hnLen S9 0 rfl).mono ?_
        rintro e wz ⟨rfl, rfl⟩
        go_wp2_with fail
        refine (hnLen S9 0 rfl).mono ?_
        rintro e wz ⟨rfl, rfl⟩
        go_wp2
        go_roundw
        case rel => exact ⟨k + 1, D, nT, nG, s9, T, G, aT, aG, cT, cG, by omega, by go_num, rfl, rfl, rfl, HI9.out, S9⟩
        case measure => simp [intOf]; omega
      · have hI7 : NInv s9 (T ++ [x.m]) G D (k + 1) := by simpa using hI6
        have HI9 := hid hI7
        obtain ⟨N, hNN⟩ : ∃ N, nT + 1 = N := ⟨_, rfl⟩
        have HNN := hid hNN
        clear hI6 hI7
        go_wp2_with (at_builtin; refine wpList_app (by rfl) (.tmp 36) (.tmp 39) eM.T eM.T eM.T rfl rfl _ _ rfl rfl (S6'.appG1 eMok w6.heap.size rfl 1 rfl x.m _ (by rfl) N (by rw [hT.out]; exact HNN.out) (by show _ * 88 ≤ _; omega) (by unfold maxLen; omega)) ?_; rintro v4 w7 ⟨⟨a4, c4, rfl⟩, S7⟩)
        have S9 : St w w7 [netT w1.heap.size s9, ownT eM (.slice a4 N c4) (T ++ [x.m]), ownT eM (.slice aG nG cG) G] := S7.take 3
        clear S7 S6' z0 z1 z2 z3 z4 z5 z6 z7 z8 z9 z10 z11 z12 z13
        have hN9 := S9.netOk 0 rfl
        have hl9 := hN9.1
        have hT9 := (S9.slG eMok 1 rfl).1
        have hG9 := (S9.slG eMok 2 rfl).1
        have l1 : decide ((40 : Int) < (s9.l.length : Int)) = false := decide_eq_false (by omega)
        have l1n : decide (40 < s9.l.length) = false := decide_eq_false (by omega)
        have b1 := HI9.out.t
        have b2 := HI9.out.d
        have b3 := HI9.out.sum
        have l2 : decide ((N : Int) + (D : Int) < (s9.l.length : Int)) = false := decide_eq_false (by omega)
        have l2n : decide (N + D < s9.l.length) = false := decide_eq_false (by omega)
        rw [hT9] at b1
        clear b3 hN9 hT9 hG9 hl9
        refine (hnLen S9 0 rfl).mono ?_
        rintro e wz ⟨rfl, rfl⟩
        go_wp2_with fail
        refine (hnLen S9 0 rfl).mono ?_
        rintro e wz ⟨rfl, rfl⟩
        go_wp2
        go_roundw
        case rel => exact ⟨k + 1, D, N, nG, s9, (T ++ [x.m]), G, a4, aG, c4, cG, by omega, by go_num, rfl, rfl, rfl, HI9.out, S9⟩
        case measure => simp [intOf]; omega
    have g1 : (x.kind == 0) = false := by simpa using hk0
    clear hk0
    by_cases hk1 : x.kind = 1
    · have g2 : (x.kind == 1) = true := by simpa using hk1
      clear hk1
      go_wp2_with fail
      refine (hnDeliver S5 0 rfl x.i).mono ?_
      rintro e w6 ⟨hp, S6⟩
      clear y0 y1 y2 y3 y4 y5 y6 y7 y8 y9 y10 y11 y12 y13
      have hI6 := HI.out.deliver x.i
      obtain ⟨q, hq⟩ : ∃ q, nDeliver s x.i = q := ⟨_, rfl⟩
      rw [hq] at S6 hI6 hp
      obtain ⟨qo, s9⟩ := q
      have S6' : St w w6 [netT w1.heap.size s9, ownT eM (.slice aT nT cT) T, ownT eM (.slice aG nG cG) G, cellsT wr.heap.size 52 x.cs] := S6
      clear S6 S5 hq
      cases qo with
      | none =>
        have hp2 : GetMPost none e := hp
        simp only [GetMPost] at hp2
        subst hp2
        have hI7 : NInv s9 T G D (k + 1) := by simpa using hI6
        have HI9 := hid hI7
        have S9 := (S6'.take 3).alloc (.cells #[.int .i64 0, .int .i64 0, .int .i64 0, .int .i64 0, .int .i64 0, .int .i64 0, .int .i64 0, .int .i64 0, .int .i64 0, .int .i64 0, .int .i64 0] 23)
        clear hI6 hI7 S6' hp
        go_wp2_with fail
        have hN9 := S9.netOk 0 rfl
        have hl9 := hN9.1
        have hT9 := (S9.slG eMok 1 rfl).1
        have hG9 := (S9.slG eMok 2 rfl).1
        have l1 : decide ((40 : Int) < (s9.l.length : Int)) = false := decide_eq_false (by omega)
        have l1n : decide (40 < s9.l.length) = false := decide_eq_false (by omega)
        have b1 := HI9.out.t
        have b2 := HI9.out.d
        have b3 := HI9.out.sum
        have l2 : decide ((nT : Int) + (D : Int) < (s9.l.length : Int)) = false := decide_eq_false (by omega)
        have l2n : decide (nT + D < s9.l.length) = false := decide_eq_false (by omega)
        rw [hT9] at b1
        clear b3 hN9 hT9 hG9 hl9
        refine (hnLen S9 0 rfl).mono ?_
        rintro e wz ⟨rfl, rfl⟩
        go_wp2_with fail
        refine (hnLen S9 0 rfl).mono ?_
        rintro e wz ⟨rfl, rfl⟩
        go_wp2
        go_roundw
        case rel => exact ⟨k + 1, D, nT, nG, s9, T, G, aT, aG, cT, cG, by omega, by go_num, rfl, rfl, rfl, HI9.out, S9⟩
        case measure => simp [intOf]; omega
      | some m =>
        have hp2 : e = .returned (.tuple #[.agg #[.int .i64 m.node, .int .i64 m.kind, .int .i64 m.term, .int .i64 m.gen, .int .i64 m.job, .int .i64 m.inc, .int .i64 m.version, .int .i64 m.epoch, .int .i64 m.until_, .int .i64 m.mode, .int .i64 m.work], .bool true]) := hp
        subst hp2
        have hI7 : NInv s9 T (G ++ [m]) D (k + 1) := by simpa using hI6
        have HI9 := hid hI7
        have S7 := (S6'.take 3).alloc (.cells #[.int .i64 m.node, .int .i64 m.kind, .int .i64 m.term, .int .i64 m.gen, .int .i64 m.job, .int .i64 m.inc, .int .i64 m.version, .int .i64 m.epoch, .int .i64 m.until_, .int .i64 m.mode, .int .i64 m.work] 23)
        obtain ⟨N, hNN⟩ : ∃ N, nG + 1 = N := ⟨_, rfl⟩
        have HNN := hid hNN
        clear hI6 hI7 S6' hp
        go_wp2_with (at_builtin; refine wpList_app (by rfl) (.tmp 50) (.tmp 52) eM.T eM.T eM.T rfl rfl _ _ rfl rfl (S7.appG1 eMok (w6.heap.size + 1) (alloc_size _ _).symm 2 rfl m _ (by rfl) N (by rw [hG.out]; exact HNN.out) (by show _ * 88 ≤ _; omega) (by unfold maxLen; omega)) ?_; rintro v4 w7 ⟨⟨a4, c4, rfl⟩, S8⟩)
        have S9 : St w w7 [netT w1.heap.size s9, ownT eM (.slice aT nT cT) T, ownT eM (.slice a4 N c4) (G ++ [m])] := S8
        clear S7 S8
        have hN9 := S9.netOk 0 rfl
        have hl9 := hN9.1
        have hT9 := (S9.slG eMok 1 rfl).1
        have hG9 := (S9.slG eMok 2 rfl).1
        have l1 : decide ((40 : Int) < (s9.l.length : Int)) = false := decide_eq_false (by omega)
        have l1n : decide (40 < s9.l.length) = false := decide_eq_false (by omega)
        have b1 := HI9.out.t
        have b2 := HI9.out.d
        have b3 := HI9.out.sum
        have l2 : decide ((nT : Int) + (D : Int) < (s9.l.length : Int)) = false := decide_eq_false (by omega)
        have l2n : decide (nT + D < s9.l.length) = false := decide_eq_false (by omega)
        rw [hT9] at b1
        clear b3 hN9 hT9 hG9 hl9
        refine (hnLen S9 0 rfl).mono ?_
        rintro e wz ⟨rfl, rfl⟩
        go_wp2_with fail
        refine (hnLen S9 0 rfl).mono ?_
        rintro e wz ⟨rfl, rfl⟩
        go_wp2
        go_roundw
        case rel => exact ⟨k + 1, D, nT, N, s9, T, (G ++ [m]), aT, a4, cT, c4, by omega, by go_num, rfl, rfl, rfl, HI9.out, S9⟩
        case measure => simp [intOf]; omega
    have g2 : (x.kind == 1) = false := by simpa using hk1
    clear hk1
    by_cases hk2 : x.kind = 2
    · have g3 : (x.kind == 2) = true := by simpa using hk2
      clear hk2
      go_wp2_with fail
      refine (hnDrop S5 0 rfl x.i).mono ?_
      rintro e w6 ⟨rfl, S6⟩
      clear y0 y1 y2 y3 y4 y5 y6 y7 y8 y9 y10 y11 y12 y13
      have hI6 := HI.out.drop x.i
      obtain ⟨q, hq⟩ : ∃ q, nDrop s x.i = q := ⟨_, rfl⟩
      rw [hq] at S6 hI6 ⊢
      obtain ⟨qb, s9⟩ := q
      have S9 : St w w6 [netT w1.heap.size s9, ownT eM (.slice aT nT cT) T, ownT eM (.slice aG nG cG) G] := S6.take 3
      clear S6 S5 hq
      have HI9 : Hid (NInv s9 T G D (k + 1)) := hI6
      clear hI6
      go_wp2_with fail
      have hN9 := S9.netOk 0 rfl
      have hl9 := hN9.1
      have hT9 := (S9.slG eMok 1 rfl).1
      have hG9 := (S9.slG eMok 2 rfl).1
      have l1 : decide ((40 : Int) < (s9.l.length : Int)) = false := decide_eq_false (by omega)
      have l1n : decide (40 < s9.l.length) = false := decide_eq_false (by omega)
      have b1 := HI9.out.t
      have b2 := HI9.out.d
      have b3 := HI9.out.sum
      have l2 : decide ((nT : Int) + (D : Int) < (s9.l.length : Int)) = false := decide_eq_false (by omega)
      have l2n : decide (nT + D < s9.l.length) = false := decide_eq_false (by omega)
      rw [hT9] at b1
      clear b3 hN9 hT9 hG9 hl9
      refine (hnLen S9 0 rfl).mono ?_
      rintro e wz ⟨rfl, rfl⟩
      go_wp2_with fail
      refine (hnLen S9 0 rfl).mono ?_
      rintro e wz ⟨rfl, rfl⟩
      go_wp2
      go_roundw
      case rel => exact ⟨k + 1, D, nT, nG, s9, T, G, aT, aG, cT, cG, by omega, by go_num, rfl, rfl, rfl, HI9.out, S9⟩
      case measure => simp [intOf]; omega
    have g3 : (x.kind == 2) = false := by simpa using hk2
    clear hk2
    by_cases hk3 : x.kind = 3
    · have g4 : (x.kind == 3) = true := by simpa using hk3
      clear hk3
      go_wp2_with fail
      refine (hnTwice S5 0 rfl x.i).mono ?_
      rintro e w6 ⟨rfl, S6⟩
      clear y0 y1 y2 y3 y4 y5 y6 y7 y8 y9 y10 y11 y12 y13
      have hI6 := HI.out.twice x.i
      obtain ⟨q, hq⟩ : ∃ q, nTwice s x.i = q := ⟨_, rfl⟩
      rw [hq] at S6 hI6 ⊢
      obtain ⟨qb, s9⟩ := q
      have S9 : St w w6 [netT w1.heap.size s9, ownT eM (.slice aT nT cT) T, ownT eM (.slice aG nG cG) G] := S6.take 3
      clear S6 S5 hq
      cases qb
      · have HI9 : Hid (NInv s9 T G D (k + 1)) := by simpa [Hid] using hI6
        clear hI6
        go_wp2_with fail
        have hN9 := S9.netOk 0 rfl
        have hl9 := hN9.1
        have hT9 := (S9.slG eMok 1 rfl).1
        have hG9 := (S9.slG eMok 2 rfl).1
        have l1 : decide ((40 : Int) < (s9.l.length : Int)) = false := decide_eq_false (by omega)
        have l1n : decide (40 < s9.l.length) = false := decide_eq_false (by omega)
        have b1 := HI9.out.t
        have b2 := HI9.out.d
        have b3 := HI9.out.sum
        have l2 : decide ((nT : Int) + (D : Int) < (s9.l.length : Int)) = false := decide_eq_false (by omega)
        have l2n : decide (nT + D < s9.l.length) = false := decide_eq_false (by omega)
        rw [hT9] at b1
        clear b3 hN9 hT9 hG9 hl9
        refine (hnLen S9 0 rfl).mono ?_
        rintro e wz ⟨rfl, rfl⟩
        go_wp2_with fail
        refine (hnLen S9 0 rfl).mono ?_
        rintro e wz ⟨rfl, rfl⟩
        go_wp2
        go_roundw
        case rel => exact ⟨k + 1, D, nT, nG, s9, T, G, aT, aG, cT, cG, by omega, by go_num, rfl, rfl, rfl, HI9.out, S9⟩
        case measure => simp [intOf]; omega
      · have hI7 : NInv s9 T G (D + 1) (k + 1) := by simpa using hI6
        have HI9 := hid hI7
        clear hI6 hI7
        go_wp2_with fail
        rw [show (D : Int) + 1 = ((D + 1 : Nat) : Int) from rfl]
        have hN9 := S9.netOk 0 rfl
        have hl9 := hN9.1
        have hT9 := (S9.slG eMok 1 rfl).1
        have hG9 := (S9.slG eMok 2 rfl).1
        have l1 : decide ((40 : Int) < (s9.l.length : Int)) = false := decide_eq_false (by omega)
        have l1n : decide (40 < s9.l.length) = false := decide_eq_false (by omega)
        have b1 := HI9.out.t
        have b2 := HI9.out.d
        have b3 := HI9.out.sum
        have l2 : decide ((nT : Int) + ((D + 1) : Int) < (s9.l.length : Int)) = false := decide_eq_false (by omega)
        have l2n : decide (nT + (D + 1) < s9.l.length) = false := decide_eq_false (by omega)
        rw [hT9] at b1
        clear b3 hN9 hT9 hG9 hl9
        refine (hnLen S9 0 rfl).mono ?_
        rintro e wz ⟨rfl, rfl⟩
        go_wp2_with fail
        refine (hnLen S9 0 rfl).mono ?_
        rintro e wz ⟨rfl, rfl⟩
        go_wp2
        go_roundw
        case rel => exact ⟨k + 1, (D + 1), nT, nG, s9, T, G, aT, aG, cT, cG, by omega, by go_num, rfl, rfl, rfl, HI9.out, S9⟩
        case measure => simp [intOf]; omega
    have g4 : (x.kind == 3) = false := by simpa using hk3
    clear hk3
    by_cases hk4 : x.kind = 4
    · have g5 : (x.kind == 4) = true := by simpa using hk4
      clear hk4
      go_wp2_with fail
      refine (hnFlip S5 0 rfl x.i x.bit hbit).mono ?_
      rintro e w6 ⟨rfl, S6⟩
      clear y0 y1 y2 y3 y4 y5 y6 y7 y8 y9 y10 y11 y12 y13
      have hI6 := HI.out.flip x.i x.bit
      obtain ⟨q, hq⟩ : ∃ q, nFlip s x.i x.bit = q := ⟨_, rfl⟩
      rw [hq] at S6 hI6 ⊢
      obtain ⟨qb, s9⟩ := q
      have S9 : St w w6 [netT w1.heap.size s9, ownT eM (.slice aT nT cT) T, ownT eM (.slice aG nG cG) G] := S6.take 3
      clear S6 S5 hq
      have HI9 : Hid (NInv s9 T G D (k + 1)) := hI6
      clear hI6
      go_wp2_with fail
      have hN9 := S9.netOk 0 rfl
      have hl9 := hN9.1
      have hT9 := (S9.slG eMok 1 rfl).1
      have hG9 := (S9.slG eMok 2 rfl).1
      have l1 : decide ((40 : Int) < (s9.l.length : Int)) = false := decide_eq_false (by omega)
      have l1n : decide (40 < s9.l.length) = false := decide_eq_false (by omega)
      have b1 := HI9.out.t
      have b2 := HI9.out.d
      have b3 := HI9.out.sum
      have l2 : decide ((nT : Int) + (D : Int) < (s9.l.length : Int)) = false := decide_eq_false (by omega)
      have l2n : decide (nT + D < s9.l.length) = false := decide_eq_false (by omega)
      rw [hT9] at b1
      clear b3 hN9 hT9 hG9 hl9
      refine (hnLen S9 0 rfl).mono ?_
      rintro e wz ⟨rfl, rfl⟩
      go_wp2_with fail
      refine (hnLen S9 0 rfl).mono ?_
      rintro e wz ⟨rfl, rfl⟩
      go_wp2
      go_roundw
      case rel => exact ⟨k + 1, D, nT, nG, s9, T, G, aT, aG, cT, cG, by omega, by go_num, rfl, rfl, rfl, HI9.out, S9⟩
      case measure => simp [intOf]; omega
    have g5 : (x.kind == 4) = false := by simpa using hk4
    clear hk4
    have HI9 := hid HI.out.step
    have S9 : St w (wr.alloc (.cells #[.int .i64 x.kind, .int .i64 x.i, .int .i64 x.bit, .int .i64 x.m.node, .int .i64 x.m.kind, .int .i64 x.m.term, .int .i64 x.m.gen, .int .i64 x.m.job, .int .i64 x.m.inc, .int .i64 x.m.version, .int .i64 x.m.epoch, .int .i64 x.m.until_, .int .i64 x.m.mode, .int .i64 x.m.work] 52)) [netT w1.heap.size s, ownT eM (.slice aT nT cT) T, ownT eM (.slice aG nG cG) G] := S5.take 3
    go_wp2_with fail
    have hN9 := S9.netOk 0 rfl
    have hl9 := hN9.1
    have hT9 := (S9.slG eMok 1 rfl).1
    have hG9 := (S9.slG eMok 2 rfl).1
    have l1 : decide ((40 : Int) < (s.l.length : Int)) = false := decide_eq_false (by omega)
    have l1n : decide (40 < s.l.length) = false := decide_eq_false (by omega)
    have b1 := HI9.out.t
    have b2 := HI9.out.d
    have b3 := HI9.out.sum
    have l2 : decide ((nT : Int) + (D : Int) < (s.l.length : Int)) = false := decide_eq_false (by omega)
    have l2n : decide (nT + D < s.l.length) = false := decide_eq_false (by omega)
    rw [hT9] at b1
    clear b3 hN9 hT9 hG9 hl9
    refine (hnLen S9 0 rfl).mono ?_
    rintro e wz ⟨rfl, rfl⟩
    go_wp2_with fail
    refine (hnLen S9 0 rfl).mono ?_
    rintro e wz ⟨rfl, rfl⟩
    go_wp2
    go_roundw
    case rel => exact ⟨k + 1, D, nT, nG, s, T, G, aT, aG, cT, cG, by omega, by go_num, rfl, rfl, rfl, HI9.out, S9⟩
    case measure => simp [intOf]; omega

end Go.Proofs.Ytjibmbejfpdifaa
