/- Stores: Get, Commit, Stage, New. -/
import Derived.Test.YtiilhfmmclhflaaStore2
namespace Go.Proofs.Ytiilhfmmclhflaa
set_option linter.unusedVariables false
set_option linter.unusedSimpArgs false
open Go.RowKit
section
variable {w0 w : World} {r : List Thing} {g : Nat} {s : SS}
theorem set_same {l : List Thing} {k : Nat} {x : Thing} (h : l[k]? = some x) : l.set k x = l := by
  refine List.ext_getElem? fun i => ?_
  by_cases hi : k = i
  · subst hi; rw [List.getElem?_set_self (List.getElem?_eq_some_iff.1 h).1, h]
  · rw [List.getElem?_set_ne hi]
/-- What Get tells. -/
def SGPost (w : World) (o : Option (List UInt8)) (e : Ending) (w' : World) : Prop :=
  ∃ a c, e = .returned (.tuple #[.slice a (o.getD []).length c, .bool o.isSome]) ∧ Own w' w.heap.size (.slice a (o.getD []).length c) (o.getD []) ∧ Below w.heap.size w w'
set_option maxRecDepth 10000 in
set_option maxHeartbeats 1600000 in
theorem stGet_any (S : St w0 w r) (k : Nat) (hk : r[k]? = some (storeT g s)) (n ep : Int) :
    Calls Try.prog 16 #[.pointer (some ⟨g, 0, none⟩), .int .i64 n, .int .i64 ep] w fun e w' => SGPost w (sGet s n ep) e w' := by
  obtain ⟨F, l, I⟩ := S.head k hk
  by_cases h : jobOk n
  case neg =>
    have e : Hid (jobV g n = .pointer none) := by rw [Hid, jobV, if_neg h]
    have e2 : Hid (sGet s n ep = none) := by rw [Hid, sGet, if_pos (.inl h)]
    clear h S I
    go_enter Try.func16, Try.ntmps16
    go_wp2_with fail
    refine (stJob_any g n _).mono ?_
    rintro e' w1 ⟨rfl, rfl⟩
    rw [e.out]
    go_wp2
    go_ret2
    rw [e2.out]
    exact ⟨none, 0, rfl, Own.nil _ _, Below.refl _ _⟩
  obtain ⟨N, rfl, h1, h2⟩ := jobOk_nat h
  obtain ⟨hkl, hj⟩ := I.job h2
  obtain ⟨c, hc⟩ : ∃ c, 2 + N * 4 = c := ⟨_, rfl⟩
  have hsh := I.sh hkl c hc
  have e : Hid (jobV g N = .pointer (some ⟨g, c, none⟩)) := by rw [Hid, jobV, if_pos h, ← hc]; rfl
  by_cases hep : ep < 1
  · have e2 : Hid (sGet s N ep = none) := by rw [Hid, sGet, if_pos (.inr hep)]
    have g1 : decide (ep < 1) = true := decide_eq_true hep
    clear h S I hsh hc hj hep
    go_enter Try.func16, Try.ntmps16
    go_wp2_with fail
    refine (stJob_any g N _).mono ?_
    rintro e' w1 ⟨rfl, rfl⟩
    rw [e.out]
    go_wp2
    go_ret2
    rw [e2.out]
    exact ⟨none, 0, rfl, Own.nil _ _, Below.refl _ _⟩
  have g1 : decide (ep < 1) = false := decide_eq_false hep
  obtain ⟨hL1, hL2⟩ := I.data _ (List.getElem_mem hkl)
  obtain ⟨hs1, hs2⟩ := I.small _ (List.getElem_mem hkl)
  obtain ⟨x, hx⟩ : ∃ x, l[N] = x := ⟨_, rfl⟩
  rw [hx] at hsh hL1 hL2 hs1 hs2 hj
  have e2 : Hid (sGet s N ep = if x.e1 = ep then some x.d1.l else if x.e2 = ep then some x.d2.l else none) := by
    rw [Hid, sGet, if_neg (by rintro (q | q); exact q h; exact hep q), hj]; rfl
  clear h S I hc hj hep hx
  obtain ⟨x0, x1, x2, x3⟩ := hsh
  have q0 : ∀ wx, (Instr.index 87 (.agg #[.int .i64 x.e1, .slice x.d1.a x.d1.n x.d1.c, .int .i64 x.e2, .slice x.d2.a x.d2.n x.d2.c]) (.int .i64 0)).run Try.prog wx = .ok (.agg #[.int .i64 x.e1, .slice x.d1.a x.d1.n x.d1.c]) wx := fun _ => rfl
  have q1 : ∀ wx, (Instr.index 87 (.agg #[.int .i64 x.e1, .slice x.d1.a x.d1.n x.d1.c, .int .i64 x.e2, .slice x.d2.a x.d2.n x.d2.c]) (.int .i64 1)).run Try.prog wx = .ok (.agg #[.int .i64 x.e2, .slice x.d2.a x.d2.n x.d2.c]) wx := fun _ => rfl
  go_enter Try.func16, Try.ntmps16
  go_wp2_with fail
  refine (stJob_any g N _).mono ?_
  rintro e' w1 ⟨rfl, rfl⟩
  rw [e.out]
  go_wp2_with fail
  refine wp_region_held_drew (S := (fun w' => w'.cell? ⟨g, c, none⟩ = some (.int .i64 x.e1) ∧ w'.cell? ⟨g, c + 1, none⟩ = some (.slice x.d1.a x.d1.n x.d1.c) ∧ w'.cell? ⟨g, c + 2, none⟩ = some (.int .i64 x.e2) ∧ w'.cell? ⟨g, c + 3, none⟩ = some (.slice x.d2.a x.d2.n x.d2.c))) (by kernel_rfl) (by exact ⟨x0, x1, x2, x3⟩) (fun hHeld => ?_)
  change wpAnyH _ _ _ _ _ 10 (Array.replicate 10 false) _ _
  refine wpAnyH_take (i := 0) (v := ?v1) (ops_at rfl) (by kernel_rfl) (by kernel_rfl) (by kernel_rfl) (fun _ _ _ h => h) (Or.inl ⟨by rfl, ?hy1⟩) (by assumption) ?rest1
  case hy1 => intro w' hSw; (try dsimp only at hSw); go_simp; try with_reducible rfl
  try simp only [Act.put, List.setIfInBounds_toArray, List.set_cons_zero, List.set_cons_succ]
  refine wpAnyH_take (i := 1) (v := ?v2) (ops_at rfl) (by kernel_rfl) (by kernel_rfl) (by kernel_rfl) (fun _ _ _ h => h) (Or.inl ⟨by rfl, ?hy2⟩) (by assumption) ?rest2
  case hy2 => intro w' hSw; (try dsimp only at hSw); go_simp; try with_reducible rfl
  try simp only [Act.put, List.setIfInBounds_toArray, List.set_cons_zero, List.set_cons_succ]
  refine wpAnyH_take (i := 2) (v := ?v3) (ops_at rfl) (by kernel_rfl) (by kernel_rfl) (by kernel_rfl) (fun _ _ _ h => h) (Or.inl ⟨by rfl, ?hy3⟩) (by assumption) ?rest3
  case hy3 => intro w' hSw; (try dsimp only at hSw); go_simp; try with_reducible rfl
  try simp only [Act.put, List.setIfInBounds_toArray, List.set_cons_zero, List.set_cons_succ]
  refine wpAnyH_take (i := 3) (v := ?v4) (ops_at rfl) (by kernel_rfl) (by kernel_rfl) (by kernel_rfl) (fun _ _ _ h => h) (Or.inl ⟨by rfl, ?hy4⟩) (by assumption) ?rest4
  case hy4 => intro w' hSw; (try dsimp only at hSw); go_simp; try with_reducible rfl
  try simp only [Act.put, List.setIfInBounds_toArray, List.set_cons_zero, List.set_cons_succ]
  refine wpAnyH_take (i := 4) (v := ?v5) (ops_at rfl) (by kernel_rfl) (by kernel_rfl) (by kernel_rfl) (fun _ _ _ h => h) (Or.inl ⟨by rfl, ?hy5⟩) (by assumption) ?rest5
  case hy5 => intro w' hSw; (try dsimp only at hSw); go_simp; try with_reducible rfl
  try simp only [Act.put, List.setIfInBounds_toArray, List.set_cons_zero, List.set_cons_succ]
  refine wpAnyH_take (i := 5) (v := ?v6) (ops_at rfl) (by kernel_rfl) (by kernel_rfl) (by kernel_rfl) (fun _ _ _ h => h) (Or.inl ⟨by rfl, ?hy6⟩) (by assumption) ?rest6
  case hy6 => intro w' hSw; (try dsimp only at hSw); go_simp; try with_reducible rfl
  try simp only [Act.put, List.setIfInBounds_toArray, List.set_cons_zero, List.set_cons_succ]
  refine wpAnyH_take (i := 6) (v := ?v7) (ops_at rfl) (by kernel_rfl) (by kernel_rfl) (by kernel_rfl) (fun _ _ _ h => h) (Or.inl ⟨by rfl, ?hy7⟩) (by assumption) ?rest7
  case hy7 => intro w' hSw; (try dsimp only at hSw); go_simp; try with_reducible rfl
  try simp only [Act.put, List.setIfInBounds_toArray, List.set_cons_zero, List.set_cons_succ]
  refine wpAnyH_take (i := 7) (v := ?v8) (ops_at rfl) (by kernel_rfl) (by kernel_rfl) (by kernel_rfl) (fun _ _ _ h => h) (Or.inl ⟨by rfl, ?hy8⟩) (by assumption) ?rest8
  case hy8 => intro w' hSw; (try dsimp only at hSw); go_simp; try with_reducible rfl
  try simp only [Act.put, List.setIfInBounds_toArray, List.set_cons_zero, List.set_cons_succ]
  refine wpAnyH_take (i := 8) (v := ?v9) (ops_at rfl) (by kernel_rfl) (by kernel_rfl) (by kernel_rfl) (fun _ _ _ h => h) (Or.inl ⟨by rfl, ?hy9⟩) (by assumption) ?rest9
  case hy9 => intro w' hSw; (try dsimp only at hSw); go_simp; try with_reducible rfl
  try simp only [Act.put, List.setIfInBounds_toArray, List.set_cons_zero, List.set_cons_succ]
  refine wpAnyH_take (i := 9) (v := ?v10) (ops_at rfl) (by kernel_rfl) (by kernel_rfl) (by kernel_rfl) (fun _ _ _ h => h) (Or.inl ⟨by rfl, ?hy10⟩) (by assumption) ?rest10
  case hy10 => intro w' hSw; (try dsimp only at hSw); go_simp; try with_reducible rfl
  try simp only [Act.put, List.setIfInBounds_toArray, List.set_cons_zero, List.set_cons_succ]
  refine wpAnyH_done (by kernel_rfl) ?_ _
  go_wp2_with fail
  go_loopw [29] (fun i wr => ∃ j : Nat, j ≤ 2 ∧ i = .int .i64 j ∧ (1 ≤ j → x.e1 ≠ ep) ∧ (2 ≤ j → x.e2 ≠ ep) ∧ Below w.heap.size w wr) (fun i _ => 2 - (intOf i).toNat)
  case atStart => exact ⟨0, by omega, rfl, fun h => absurd h (by omega), fun h => absurd h (by omega), ((St.start w).drew).fin⟩
  case round =>
    obtain ⟨j, hj, rfl, n1, n2, hb⟩ := hrel
    have SB : St w wr [] := ⟨hb, ((St.start w).grow hb).has⟩
    clear hb x0 x1 x2 x3
    have q0' : ∀ wx, (Instr.index 87 (.agg #[.int .i64 x.e1, .slice x.d1.a x.d1.n x.d1.c, .int .i64 x.e2, .slice x.d2.a x.d2.n x.d2.c]) (.int .i64 ((0 : Nat) : Int))).run Try.prog wx = .ok (.agg #[.int .i64 x.e1, .slice x.d1.a x.d1.n x.d1.c]) wx := q0
    have q1' : ∀ wx, (Instr.index 87 (.agg #[.int .i64 x.e1, .slice x.d1.a x.d1.n x.d1.c, .int .i64 x.e2, .slice x.d2.a x.d2.n x.d2.c]) (.int .i64 ((1 : Nat) : Int))).run Try.prog wx = .ok (.agg #[.int .i64 x.e2, .slice x.d2.a x.d2.n x.d2.c]) wx := q1
    rcases (show j = 0 ∨ j = 1 ∨ j = 2 by omega) with rfl | rfl | rfl
    · by_cases hm : x.e1 = ep
      · have e1 : (x.e1 == ep) = true := by simpa using hm
        have HM := hid hm
        clear hm
        have hres : Hid (sGet s N ep = some x.d1.l) := by rw [Hid, e2.out, if_pos HM.out]
        have hcl := hL1.hd
        have hat := hL1.at_.all (SB.alloc (.cells #[.int .i64 x.e1, .slice x.d1.a x.d1.n x.d1.c] 72)).fin
        go_wp2_with fail
        refine (clone_any x.d1.a x.d1.l x.d1.n x.d1.c _ hcl.len (by omega) hcl.nil (by exact hat)).mono ?_
        rintro e w5 ⟨v, rfl, ho, hb5⟩
        obtain ⟨a5, c5, rfl⟩ := ho.written rfl
        have hf := bst (SB.alloc (.cells #[.int .i64 x.e1, .slice x.d1.a x.d1.n x.d1.c] 72)).fin hb5
        have hbase := (SB.alloc (.cells #[.int .i64 x.e1, .slice x.d1.a x.d1.n x.d1.c] 72)).size
        have HO := hid ho
        clear ho hb5
        go_wp2
        go_ret2
        rw [hres.out]
        exact ⟨a5, c5, rfl, HO.out.base hbase, hf⟩
      · have e1 : (x.e1 == ep) = false := by simpa using hm
        have HM := hid hm
        clear hm
        go_wp2
        go_roundw
        case rel => exact ⟨1, by omega, rfl, fun _ => HM.out, fun h => absurd h (by omega), (SB.alloc _).fin⟩
        case measure => simp [intOf]
    · by_cases hm : x.e2 = ep
      · have e1 : (x.e2 == ep) = true := by simpa using hm
        have HM := hid hm
        clear hm
        have hres : Hid (sGet s N ep = some x.d2.l) := by rw [Hid, e2.out, if_neg (n1 (by omega)), if_pos HM.out]
        have hcl := hL2.hd
        have hat := hL2.at_.all (SB.alloc (.cells #[.int .i64 x.e2, .slice x.d2.a x.d2.n x.d2.c] 72)).fin
        go_wp2_with fail
        refine (clone_any x.d2.a x.d2.l x.d2.n x.d2.c _ hcl.len (by omega) hcl.nil (by exact hat)).mono ?_
        rintro e w5 ⟨v, rfl, ho, hb5⟩
        obtain ⟨a5, c5, rfl⟩ := ho.written rfl
        have hf := bst (SB.alloc (.cells #[.int .i64 x.e2, .slice x.d2.a x.d2.n x.d2.c] 72)).fin hb5
        have hbase := (SB.alloc (.cells #[.int .i64 x.e2, .slice x.d2.a x.d2.n x.d2.c] 72)).size
        have HO := hid ho
        clear ho hb5
        go_wp2
        go_ret2
        rw [hres.out]
        exact ⟨a5, c5, rfl, HO.out.base hbase, hf⟩
      · have e1 : (x.e2 == ep) = false := by simpa using hm
        have HM := hid hm
        clear hm
        go_wp2
        go_roundw
        case rel => exact ⟨2, by omega, rfl, fun _ => n1 (by omega), fun _ => HM.out, (SB.alloc _).fin⟩
        case measure => simp [intOf]
    · have hres : Hid (sGet s N ep = none) := by rw [Hid, e2.out, if_neg (n1 (by omega)), if_neg (n2 (by omega))]
      go_wp2
      go_ret2
      rw [hres.out]
      exact ⟨none, 0, rfl, Own.nil _ _, SB.fin⟩
set_option maxRecDepth 10000 in
set_option maxHeartbeats 1600000 in
theorem stCommit_any (S : St w0 w r) (k : Nat) (hk : r[k]? = some (storeT g s)) (n ep : Int) :
    Calls Try.prog 18 #[.pointer (some ⟨g, 0, none⟩), .int .i64 n, .int .i64 ep] w fun e w' => e = .returned (.int .i64 (sCommit s n ep).1) ∧ St w0 w' (r.set k (storeT g (sCommit s n ep).2)) := by
  obtain ⟨F, l, I, hu⟩ := S.storeUpd k hk
  have hS : St w0 w (r.set k (storeT g s)) := by rw [set_same hk]; exact S
  by_cases h : jobOk n
  case neg =>
    have e : Hid (jobV g n = .pointer none) := by rw [Hid, jobV, if_neg h]
    have e2 : Hid (sCommit s n ep = (4, s)) := by rw [Hid, sCommit, if_pos (.inl h)]
    rw [e2.out]
    clear h I hu
    go_enter Try.func18, Try.ntmps18
    go_wp2_with fail
    refine (stJob_any g n _).mono ?_
    rintro e' w1 ⟨rfl, rfl⟩
    rw [e.out]
    go_wp2
    go_ret
    exact ⟨rfl, hS⟩
  obtain ⟨N, rfl, h1, h2⟩ := jobOk_nat h
  obtain ⟨hkl, hj⟩ := I.job h2
  obtain ⟨c, hc⟩ : ∃ c, 2 + N * 4 = c := ⟨_, rfl⟩
  obtain ⟨x0, x1, x2, x3⟩ := I.sh hkl c hc
  have e : Hid (jobV g N = .pointer (some ⟨g, c, none⟩)) := by rw [Hid, jobV, if_pos h, ← hc]; rfl
  have hE : sCommit s N ep = if ep < 1 ∨ ep ≠ l[N].e1 ∧ ep ≠ l[N].e2 then (4, s) else if ep = l[N].e2 then (0, s.put N ⟨l[N].e2, l[N].d2.l, 0, []⟩) else (0, s) := by
    unfold sCommit
    rw [hj]
    simp only [h, not_true_eq_false, false_or]
    rfl
  by_cases hep : ep < 1
  · have e2 : Hid (sCommit s N ep = (4, s)) := by rw [Hid, hE, if_pos (.inl hep)]
    rw [e2.out]
    have g1 : decide (ep < 1) = true := decide_eq_true hep
    clear h I hu hep hE hj
    go_enter Try.func18, Try.ntmps18
    go_wp2_with fail
    refine (stJob_any g N _).mono ?_
    rintro e' w1 ⟨rfl, rfl⟩
    rw [e.out]
    go_wp2
    go_ret
    exact ⟨rfl, hS⟩
  have g1 : decide (ep < 1) = false := decide_eq_false hep
  have f0 := I.frozen c
  have f1 := I.frozen (c + 1)
  have f2 := I.frozen (c + 2)
  have f3 := I.frozen (c + 3)
  have I4 := I.set4 hkl c hc ⟨l[N].e2, l[N].d2, 0, ⟨none, 0, 0, []⟩⟩ ⟨(I.data _ (List.getElem_mem hkl)).2, BS.Lie.zero _ _ _⟩ ⟨(I.small _ (List.getElem_mem hkl)).2, by simp⟩
  have S4 := hid (hu _ _ _ I4.1 I4.2)
  rw [show Sh.ps ⟨l[N].e2, l[N].d2, 0, ⟨none, 0, 0, []⟩⟩ = ⟨l[N].e2, l[N].d2.l, 0, []⟩ from rfl] at S4
  obtain ⟨x, hx⟩ : ∃ x, l[N] = x := ⟨_, rfl⟩
  rw [hx] at x0 x1 x2 x3 hE S4
  clear h I hu hj hx I4 hc
  by_cases hs2 : ep = x.e2
  · have e2 : Hid (sCommit s N ep = (0, s.put N ⟨x.e2, x.d2.l, 0, []⟩)) := by rw [Hid, hE, if_neg (by rintro (q | q); exact hep q; exact q.2 hs2), if_pos hs2]
    rw [e2.out]
    have k1 : (ep != x.e2) = false := by simpa using hs2
    have k2 : (ep == x.e2) = true := by simpa using hs2
    clear hs2 hE hep
    go_enter Try.func18, Try.ntmps18
    go_wp2_with fail
    refine (stJob_any g N _).mono ?_
    rintro e' w1 ⟨rfl, rfl⟩
    rw [e.out]
    cases hb : ep != x.e1
    all_goals (
      go_wp2
      go_ret
      exact ⟨rfl, S4.out⟩)
  have k1 : (ep != x.e2) = true := by simpa using hs2
  have k2 : (ep == x.e2) = false := by simpa using hs2
  by_cases hs1 : ep = x.e1
  · have e2 : Hid (sCommit s N ep = (0, s)) := by rw [Hid, hE, if_neg (by rintro (q | q); exact hep q; exact q.1 hs1), if_neg hs2]
    rw [e2.out]
    have k3 : (ep != x.e1) = false := by simpa using hs1
    clear hs1 hs2 hE hep
    go_enter Try.func18, Try.ntmps18
    go_wp2_with fail
    refine (stJob_any g N _).mono ?_
    rintro e' w1 ⟨rfl, rfl⟩
    rw [e.out]
    go_wp2
    go_ret
    exact ⟨rfl, hS⟩
  · have e2 : Hid (sCommit s N ep = (4, s)) := by rw [Hid, hE, if_pos (.inr ⟨hs1, hs2⟩)]
    rw [e2.out]
    have k3 : (ep != x.e1) = true := by simpa using hs1
    clear hs1 hs2 hE hep
    go_enter Try.func18, Try.ntmps18
    go_wp2_with fail
    refine (stJob_any g N _).mono ?_
    rintro e' w1 ⟨rfl, rfl⟩
    rw [e.out]
    go_wp2
    go_ret
    exact ⟨rfl, hS⟩
end

end Go.Proofs.Ytiilhfmmclhflaa
