/- The document's net: Drop, Deliver, Twice, Flip, List; messages held against each other. -/
import Derived.Test.YtjibmbejfpdifaaNetRef
namespace Go.Proofs.Ytjibmbejfpdifaa
set_option linter.unusedVariables false
set_option linter.unusedSimpArgs false
open Go.RowKit
/-- The first `k` of a list without number `i`. -/
def er {α : Type} (l : List α) (i k : Nat) : List α := (l.take k).eraseIdx i
theorem er_eq {α : Type} {l : List α} {i : Nat} (h : i < l.length) : er l i (i + 1) = er l i i := by
  unfold er
  rw [List.take_succ_eq_append_getElem h]
  have h1 : (l.take i).length = i := by rw [List.length_take]; omega
  rw [List.eraseIdx_of_length_le (l := l.take i) (by omega), List.eraseIdx_append_of_length_le (by omega), h1, Nat.sub_self]
  simp
theorem er_ne {α : Type} {l : List α} {i k : Nat} (h : k < l.length) (hk : k ≠ i) : er l i (k + 1) = er l i k ++ [l[k]] := by
  unfold er
  rw [List.take_succ_eq_append_getElem h]
  have h1 : (l.take k).length = k := by rw [List.length_take]; omega
  rcases Nat.lt_or_gt_of_ne hk with h2 | h2
  · rw [List.eraseIdx_of_length_le (l := l.take k) (by omega), List.eraseIdx_of_length_le (by rw [List.length_append, h1]; simp; omega)]
  · rw [List.eraseIdx_append_of_lt_length (by omega)]
theorem er_all {α : Type} (l : List α) (i : Nat) : er l i l.length = l.eraseIdx i := by unfold er; rw [List.take_length]
theorem map_erase {α β : Type} (f : α → β) (l : List α) (i : Nat) : (l.eraseIdx i).map f = (l.map f).eraseIdx i := by
  rw [List.eraseIdx_eq_take_drop_succ, List.eraseIdx_eq_take_drop_succ, List.map_append, List.map_take, List.map_drop]
theorem er_len {α β : Type} (l : List α) (f g : α → β) (i k : Nat) : (er (l.map f) i k).length = (er (l.map g) i k).length := by
  unfold er; rw [List.length_eraseIdx, List.length_eraseIdx]; simp
theorem er_le {α : Type} (l : List α) (i k : Nat) : (er l i k).length ≤ k := by
  unfold er; rw [List.length_eraseIdx, List.length_take]; split <;> omega
section
variable {w0 w : World} {tl : List Thing} {h : Nat} {aL aB : Option Addr} {cL cB : Nat} {s : NS}
set_option maxRecDepth 10000 in
set_option maxHeartbeats 3200000 in
theorem rnDrop_any (S : St w0 w (rnL h aL cL aB cB s tl)) (hl : s.l.length ≤ 40) (i : Int) :
    Calls Try.prog 31 #[.pointer (some ⟨h, 0, none⟩), .int .i64 i] w fun e w' => RPost w0 h tl (nDrop s i) e w' := by
  by_cases hi : 0 ≤ i ∧ i < (s.l.length : Int)
  case neg =>
    have HE : Hid (∀ e w', e = .returned (.bool false) → St w0 w' (rnL h aL cL aB cB s tl) → RPost w0 h tl (nDrop s i) e w') := by
      intro e w' h1 h2; unfold nDrop; rw [if_neg (fun q => hi q)]; exact ⟨aL, cL, aB, cB, h1, h2⟩
    have g0 := hid (has_no hi)
    clear hi
    go_enter Try.func31, Try.ntmps31
    go_wp2_with fail
    refine (rnHas_any S i).mono ?_
    rintro e w1 ⟨rfl, rfl⟩
    rw [g0.out]
    go_wp2
    go_ret
    exact HE.out _ _ rfl S
  have g0 := hid (has_yes hi)
  obtain ⟨j, rfl⟩ : ∃ j : Nat, i = j := ⟨i.toNat, by omega⟩
  have hj : j < s.l.length := by omega
  have HE : Hid (∀ e w' aL cL aB cB, e = .returned (.bool true) → St w0 w' (rnL h aL cL aB cB ⟨s.l.eraseIdx j, s.sent⟩ tl) → RPost w0 h tl (nDrop s j) e w') := by
    intro e w' aL cL aB cB h1 h2; unfold nDrop; rw [if_pos hi]; exact ⟨aL, cL, aB, cB, h1, h2⟩
  clear hi
  obtain ⟨n, hn⟩ : ∃ n, s.l.length = n := ⟨_, rfl⟩
  have S0 : St w0 w (ownCT eT (.slice none 0 0) (er (s.l.map fun x => x.k.isSome) j 0) :: ownT eM (.slice none 0 0) (er (s.l.map NM.m) j 0) :: cellsT h 50 [.slice aL n cL, .slice aB n cB, .int .i64 (s.sent : Int)] :: ownT eM (.slice aL n cL) (s.l.map NM.m) :: ownCT eT (.slice aB n cB) (s.l.map fun x => x.k.isSome) :: tl) := by
    have := ((S.nilG eM).rot.nilC eT).rot
    rw [← hn]; exact this
  rw [hn] at hl hj
  have HN := hid hn
  clear hn
  go_enter Try.func31, Try.ntmps31
  go_wp2_with fail
  refine (rnHas_any S j).mono ?_
  rintro e w1 ⟨rfl, rfl⟩
  rw [g0.out]
  clear S
  go_wp2_with fail
  go_loopw [5, 6, 7] (fun v u q wr => ∃ (k N : Nat) (a5 a6 : Option Addr) (c5 c6 : Nat), k ≤ n ∧ q = .int .i64 k ∧ v = .slice a5 N c5 ∧ u = .slice a6 N c6 ∧ St w0 wr (ownCT eT (.slice a6 N c6) (er (s.l.map fun x => x.k.isSome) j k) :: ownT eM (.slice a5 N c5) (er (s.l.map NM.m) j k) :: cellsT h 50 [.slice aL n cL, .slice aB n cB, .int .i64 (s.sent : Int)] :: ownT eM (.slice aL n cL) (s.l.map NM.m) :: ownCT eT (.slice aB n cB) (s.l.map fun x => x.k.isSome) :: tl)) (fun _ _ q _ => n - (intOf q).toNat)
  case atStart => exact ⟨0, 0, none, none, 0, 0, Nat.zero_le _, rfl, rfl, rfl, S0⟩
  case round =>
    obtain ⟨k, N, a5, a6, c5, c6, hk, rfl, rfl, rfl, Sk⟩ := hrel
    clear S0
    have c0 := Sk.cell 2 rfl 0 rfl
    have c1 := Sk.cell 2 rfl 1 rfl
    have hNk : N ≤ k := by have h1 := (Sk.slG eMok 1 rfl).1; have h2 := er_le (s.l.map NM.m) j k; omega
    have HN1 := hid (Sk.slG eMok 1 rfl).1
    have HN0 := hid (Sk.slC eTok 0 rfl).1
    by_cases hlt : k < n
    case neg =>
      have g1 : decide ((k : Int) < (n : Int)) = false := decide_eq_false (by omega)
      have g1n : decide (k < n) = false := decide_eq_false (by omega)
      have ek : k = n := by omega
      subst ek
      have f0 := Sk.frozen 2 rfl 0
      have f1 := Sk.frozen 2 rfl 1
      clear hlt hk
      have e1 : er (s.l.map NM.m) j k = (s.l.eraseIdx j).map NM.m := by rw [map_erase, ← er_all, List.length_map, HN.out]
      have e2 : er (s.l.map fun x => x.k.isSome) j k = (s.l.eraseIdx j).map fun x => x.k.isSome := by rw [map_erase, ← er_all, List.length_map, HN.out]
      rw [e1, e2] at Sk
      have HNN : Hid ((s.l.eraseIdx j).length = N) := by have := HN1.out; rw [e1, List.length_map] at this; exact this
      clear e1 e2
      have S9 := hid ((Sk.setCell 2 rfl 0 (.slice a5 N c5)).setCell 2 rfl 1 (.slice a6 N c6))
      go_wp2
      go_ret
      have S10 := ((S9.out.front 4 rfl).tail.front 3 rfl).tail
      refine HE.out _ _ a5 c5 a6 c6 rfl (St.conv ((S10.front 2 rfl).perm ((List.Perm.swap _ _ _).cons _)) ?_)
      unfold rnL
      rw [HNN.out]
      rfl
    have g1 : decide ((k : Int) < (n : Int)) = true := decide_eq_true (by omega)
    have g1n : decide (k < n) = true := decide_eq_true (by omega)
    have hkM : k < (s.l.map NM.m).length := by rw [List.length_map, HN.out]; exact hlt
    have hkT : k < (s.l.map fun x => x.k.isSome).length := by rw [List.length_map, HN.out]; exact hlt
    by_cases hkj : k = j
    · subst hkj
      have g2 : ((k : Int) != (k : Int)) = false := by simp
      have e1 := hid (er_eq hkM)
      have e2 := hid (er_eq hkT)
      go_wp2
      go_roundw
      case rel => exact ⟨k + 1, N, a5, a6, c5, c6, by omega, by go_num, rfl, rfl, by rw [e1.out, e2.out]; exact Sk⟩
      case measure => simp [intOf]; omega
    have g2 : ((k : Int) != (j : Int)) = true := by simp; omega
    have g2n : (k != j) = true := by simpa using hkj
    have hAM := (Sk.slG eMok 3 rfl).2.2.2.2
    have hAT := (Sk.slC eTok 4 rfl).2.2.2.2.1
    have i0 := fun wx => idxM aL n cL (fun h => hAM.ok (by omega)) k hlt wx
    have i1 := fun wx => idxT aB n cB (fun h => hAT.ok (by omega)) k hlt wx
    obtain ⟨z0, z1, z2, z3, z4, z5, z6, z7, z8, z9, z10⟩ := hAM.msgAt hkM
    have e1 := hid (er_ne hkM hkj)
    have e2 := hid (er_ne hkT hkj)
    obtain ⟨m, hm⟩ : ∃ m, (s.l.map NM.m)[k] = m := ⟨_, rfl⟩
    obtain ⟨b, hb⟩ : ∃ b, (s.l.map fun x => x.k.isSome)[k] = b := ⟨_, rfl⟩
    rw [hm] at z0 z1 z2 z3 z4 z5 z6 z7 z8 z9 z10 e1
    rw [hb] at e2
    have HB := hid hb
    clear hAM hAT hm hb hkj
    obtain ⟨N1, hN1⟩ : ∃ N1, N + 1 = N1 := ⟨_, rfl⟩
    have HN2 := hid hN1
    go_wp2_with (first
      | (at_builtin; refine wpList_app (by rfl) (.tmp 24) (.tmp 32) eM.T eM.T eM.T rfl rfl _ _ rfl rfl (Sk.appG1 eMok wr.heap.size rfl 1 rfl m _ (by rfl) N1 (by rw [HN1.out]; exact HN2.out) (by show _ * 88 ≤ _; omega) (by unfold maxLen; omega)) ?_; rintro v3 w3 ⟨⟨a3, c3, rfl⟩, S3⟩; have d1 := S3.cell 2 rfl 1 rfl; have y0 := (S3.slC eTok 4 rfl).2.2.2.2.1.cellT hkT; rw [HB.out] at y0)
      | (at_builtin; refine wpList_app (by rfl) (.tmp 34) (.tmp 42) eT.T eT.T eT.T rfl rfl _ _ rfl rfl (S3.appC1 eTok w3.heap.size rfl 0 rfl b _ (by rfl) N1 (by rw [HN0.out]; exact HN2.out) (by show _ * 1 ≤ _; omega) (by unfold maxLen; omega)) ?_; rintro v4 w4 ⟨⟨a4, c4, rfl⟩, S4⟩))
    go_roundw
    case rel => exact ⟨k + 1, N1, a3, a4, c3, c4, by omega, by go_num, rfl, rfl, by rw [e1.out, e2.out]; exact S4⟩
    case measure => simp [intOf]; omega
end

end Go.Proofs.Ytjibmbejfpdifaa
