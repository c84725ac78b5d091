/- Stores: what their methods do. -/
import Derived.Test.YtiilhfmmclhflaaStore
namespace Go.Proofs.Ytiilhfmmclhflaa
set_option linter.unusedVariables false
set_option linter.unusedSimpArgs false
open Go.RowKit

def PS.nil : PS := ⟨0, [], 0, []⟩
def SS.job (s : SS) (n : Int) : PS := s.js.getD n.toNat PS.nil
def jobOk (n : Int) : Prop := 1 ≤ n ∧ n ≤ 24
instance (n : Int) : Decidable (jobOk n) := inferInstanceAs (Decidable (1 ≤ n ∧ n ≤ 24))
def SS.put (s : SS) (n : Int) (x : PS) : SS := { s with js := s.js.set n.toNat x }
def sStage (s : SS) (term job epoch : Int) (d : List UInt8) : Int × SS :=
  if term < s.term then (6, s)
  else if ¬ jobOk job ∨ epoch < 1 ∨ 1000000 < epoch ∨ d.length = 0 ∨ 100 < d.length then (1, s)
  else if epoch ≤ (s.job job).ce ∨ epoch < (s.job job).se then (6, s)
  else if epoch = (s.job job).se then (0, s)
  else if s.room < (usedP s.js : Int) - (s.job job).sd.length + d.length then (3, s)
  else (0, { s.put job { s.job job with se := epoch, sd := d } with writes := s.writes + 1 })
def sCommit (s : SS) (job epoch : Int) : Int × SS :=
  if ¬ jobOk job ∨ epoch < 1 ∨ epoch ≠ (s.job job).ce ∧ epoch ≠ (s.job job).se then (4, s)
  else if epoch = (s.job job).se then (0, s.put job ⟨(s.job job).se, (s.job job).sd, 0, []⟩)
  else (0, s)
def sGet (s : SS) (job epoch : Int) : Option (List UInt8) :=
  if ¬ jobOk job ∨ epoch < 1 then none
  else if (s.job job).ce = epoch then some (s.job job).cd
  else if (s.job job).se = epoch then some (s.job job).sd
  else none
def sEnd (s : SS) (job : Int) : SS := if jobOk job then s.put job PS.nil else s
def sFence (s : SS) (term : Int) : SS := { s with term := max s.term term }
def sCounts (s : SS) (job : Int) : Int := if jobOk job then (s.job job).ce else 0
def SS.new (room : Int) : SS := ⟨max 0 room, 0, List.replicate 25 PS.nil, 0⟩

def jobV (g : Nat) (n : Int) : Value := if jobOk n then .pointer (some ⟨g, 2 + n.toNat * 4, none⟩) else .pointer none
set_option maxRecDepth 10000 in
theorem stJob_any (g : Nat) (n : Int) (w : World) : Calls Try.prog 44 #[.pointer (some ⟨g, 0, none⟩), .int .i64 n] w fun e w' => e = .returned (jobV g n) ∧ w = w' := by
  have ht : Try.prog.underlying 75 = some (.array 25 74) := by kernel_rfl
  by_cases h : jobOk n
  · obtain ⟨h1, h2⟩ := h
    obtain ⟨N, rfl⟩ := Int.eq_ofNat_of_zero_le (show 0 ≤ n by omega)
    have e : Hid (jobV g N = .pointer (some ⟨g, 2 + N * 4, none⟩)) := by rw [Hid, jobV, if_pos ⟨h1, h2⟩]; rfl
    have g1 : decide ((N : Int) < 1) = false := decide_eq_false (by omega)
    have g1n : decide (N < 1) = false := decide_eq_false (by omega)
    have g2 : decide ((24 : Int) < (N : Int)) = false := decide_eq_false (by omega)
    have g2n : decide (24 < N) = false := decide_eq_false (by omega)
    have ix : ∀ wx, (Instr.indexAt 75 (.pointer (some ⟨g, 2, none⟩)) (.int .i64 (N : Int))).run Try.prog wx = .ok (.pointer (some ⟨g, 2 + N * 4, none⟩)) wx := by
      intro wx
      have hs : (sizeOf 74).run Try.prog wx = .ok 4 wx := by kernel_rfl
      have h0 : 0 ≤ (N : Int) ∧ (N : Int) < 25 := by omega
      have hadd : (⟨g, 2, none⟩ : Addr).add (N * 4) = ⟨g, 2 + N * 4, none⟩ := by simp [Addr.add_lit]
      unfold Instr.indexAt
      simp only [asIntOf, Sem.run_bind, Sem.run_pure, Result.andThen_ok, run_underlying ht, Instr.sureAddr]
      rw [if_pos (by exact h0)]
      simp only [Sem.run_bind, hs, Result.andThen_ok, Sem.run_pure, Int.toNat_natCast, hadd]
    go_enter Try.func44, Try.ntmps44
    go_wp2
    go_ret
    exact ⟨by rw [e.out]; rfl, rfl⟩
  · have e : Hid (jobV g n = .pointer none) := by rw [Hid, jobV, if_neg h]
    have hn : n < 1 ∨ 24 < n := by unfold jobOk at h; omega
    clear h
    go_enter Try.func44, Try.ntmps44
    by_cases h1 : n < 1
    · have g1 : decide (n < 1) = true := decide_eq_true h1
      go_wp2
      go_ret
      exact ⟨by rw [e.out]; rfl, rfl⟩
    · have g1 : decide (n < 1) = false := decide_eq_false h1
      have g2 : decide (24 < n) = true := decide_eq_true (by omega)
      go_wp2
      go_ret
      exact ⟨by rw [e.out]; rfl, rfl⟩
section
variable {w0 w : World} {r : List Thing} {g : Nat} {s : SS}
theorem stTerm_any (S : St w0 w r) (k : Nat) (hk : r[k]? = some (storeT g s)) :
    Calls Try.prog 24 #[.pointer (some ⟨g, 0, none⟩)] w fun e w' => e = .returned (.int .i64 s.term) ∧ w = w' := by
  obtain ⟨F, l, I⟩ := S.head k hk
  have c1 : w.cell? ⟨g, 1, none⟩ = some (.int .i64 s.term) := I.cell 1
  go_enter Try.func24, Try.ntmps24
  go_wp2
  go_ret
  exact ⟨rfl, rfl⟩
theorem stWrites_any (S : St w0 w r) (k : Nat) (hk : r[k]? = some (storeT g s)) :
    Calls Try.prog 19 #[.pointer (some ⟨g, 0, none⟩)] w fun e w' => e = .returned (.int .i64 (s.writes : Int)) ∧ w = w' := by
  obtain ⟨F, l, I⟩ := S.head k hk
  have c1 : w.cell? ⟨g, 102, none⟩ = some (.int .i64 (s.writes : Int)) := by rw [I.cell]; exact stC_writes s l I.len
  have hl := run_call_load (P := Try.prog) Try.func61 (by kernel_rfl) (by kernel_rfl) (by kernel_rfl) .i64 (by kernel_rfl) c1
  have HL : Calls Try.prog 47 #[.pointer (some ⟨g, 102, none⟩)] w fun e w' => e = .returned (.int .i64 (s.writes : Int)) ∧ w' = w := by
    go_enter Try.func47, Try.ntmps47
    go_wp2
    go_ret
    exact ⟨rfl, rfl⟩
  clear hl c1 I
  go_enter Try.func19, Try.ntmps19
  go_wp2_with fail
  refine HL.mono ?_
  rintro e w' ⟨rfl, rfl⟩
  go_wp2
  go_ret
  exact ⟨rfl, rfl⟩
theorem tch {a w : World} {g : Nat} (h : Touch (fun b => b = g) a w) (i : Nat) (v : Value) : Touch (fun b => b = g) a (w.setCell ⟨g, i, none⟩ v) := h.setCell (p := ⟨g, i, none⟩) (.inl rfl) v
theorem tch0 (g : Nat) (w : World) : Touch (fun b => b = g) w w := Touch.refl _ _
theorem rowSet {w : World} {g i : Nat} {L : List Value} {T : TypeId} (h : w.heap[g]? = some (.cells L.toArray T (0, 0))) (v : Value) : (w.setCell ⟨g, i, none⟩ v).heap[g]? = some (.cells (L.set i v).toArray T (0, 0)) := by
  have := heap_setCell_same w g i _ _ v h
  simpa using this
theorem stC_set (s : SS) (l : List Sh) (k j : Nat) (y : Sh) (u : Value) (hk : k < l.length) (hj : j < 4) (h : y.cs = (l[k]).cs.set j u) : stC s (l.set k y) = (stC s l).set (2 + (k * 4 + j)) u := by
  rw [Nat.add_comm 2]
  unfold stC
  rw [List.set_cons_succ, List.set_cons_succ, List.set_append_left _ _ (by rw [shC_len]; omega), shC_set l k j y u hk hj h]
/-- What a store's own block alone turns. -/
theorem IsStore.upd {w w' : World} {B : Nat} {F : Nat → Prop} {g : Nat} {s s' : SS} {l l' : List Sh} (h : IsStore w B F g s l) (ht : Touch (fun b => b = g) w w') (hrow : w'.heap[g]? = some (.cells (stC s' l').toArray 82 (0, 0)))
    (hl : l'.length = 25) (hps : l'.map Sh.ps = s'.js) (hd : ∀ x ∈ l', x.d1.Lie w F g ∧ x.d2.Lie w F g) (hs : ∀ x ∈ l', x.d1.n ≤ 100 ∧ x.d2.n ≤ 100) : IsStore w' B F g s' l' :=
  ⟨h.base, hrow, h.foot, hl, hps, fun x hx => ⟨(hd x hx).1.touch ht (fun b _ hne he => hne he), (hd x hx).2.touch ht (fun b _ hne he => hne he)⟩, hs, fun b hb => ⟨(h.low b hb).1, Nat.lt_of_lt_of_le (h.low b hb).2 ht.size⟩⟩
theorem St.storeUpd (S : St w0 w r) (k : Nat) (hk : r[k]? = some (storeT g s)) : ∃ F l, IsStore w w0.heap.size F g s l ∧ ∀ (w' : World) (s' : SS) (l' : List Sh), IsStore w' w0.heap.size F g s' l' → Touch (fun b => b = g) w w' → St w0 w' (r.set k (storeT g s')) := by
  obtain ⟨F, ⟨l, I⟩, hu⟩ := S.step k hk
  exact ⟨F, l, I, fun w' s' l' I' ht => hu w' (storeT g s') F ⟨l', I'⟩ (ht.mono fun b hb => by subst hb; exact I.foot) (fun b hb => .inl hb)⟩
set_option maxRecDepth 10000 in
theorem stFence_any (S : St w0 w r) (k : Nat) (hk : r[k]? = some (storeT g s)) (term : Int) :
    Calls Try.prog 23 #[.pointer (some ⟨g, 0, none⟩), .int .i64 term] w fun e w' => e = .returned (.tuple #[]) ∧ St w0 w' (r.set k (storeT g (sFence s term))) := by
  obtain ⟨F, l, I, hu⟩ := S.storeUpd k hk
  have c1 : w.cell? ⟨g, 1, none⟩ = some (.int .i64 s.term) := I.cell 1
  have f1 := I.frozen 1
  have I2 : IsStore (w.setCell ⟨g, 1, none⟩ (.int .i64 (max s.term term))) w0.heap.size F g (sFence s term) l :=
    I.upd (tch (tch0 g w) _ _) (by have := rowSet I.row (i := 1) (.int .i64 (max s.term term)); exact this) I.len I.ps I.data I.small
  have S2 := hid (hu _ _ _ I2 (tch (tch0 g w) _ _))
  clear I2 hu S I
  obtain ⟨M, hM⟩ : ∃ M, max s.term term = M := ⟨_, rfl⟩
  rw [hM] at S2
  have HM := hid hM
  clear hM
  rcases Int.lt_trichotomy s.term term with hc | hc | hc
  · have qM : M = term := by rw [← HM.out]; omega
    rw [qM] at S2
    clear qM
    go_enter Try.func23, Try.ntmps23
    go_wp2
    all_goals first | (exfalso; omega) | (go_end0; exact ⟨rfl, S2.out⟩)
  · have qM : M = term := by rw [← HM.out]; omega
    rw [qM] at S2
    clear qM
    subst hc
    go_enter Try.func23, Try.ntmps23
    go_wp2
    all_goals first | (exfalso; omega) | (go_end0; exact ⟨rfl, S2.out⟩)
  · have qM : M = s.term := by rw [← HM.out]; omega
    rw [qM] at S2
    clear qM
    go_enter Try.func23, Try.ntmps23
    go_wp2
    all_goals first | (exfalso; omega) | (go_end0; exact ⟨rfl, S2.out⟩)
theorem jobOk_nat {n : Int} (h : jobOk n) : ∃ N : Nat, n = N ∧ 1 ≤ N ∧ N ≤ 24 := by
  obtain ⟨N, rfl⟩ := Int.eq_ofNat_of_zero_le (show 0 ≤ n by unfold jobOk at h; omega)
  unfold jobOk at h
  exact ⟨N, rfl, by omega, by omega⟩
theorem IsStore.job {w : World} {B : Nat} {F : Nat → Prop} {g : Nat} {s : SS} {l : List Sh} (h : IsStore w B F g s l) {N : Nat} (hN : N ≤ 24) : ∃ (hk : N < l.length), s.job N = (l[N]).ps := by
  have hk : N < l.length := by rw [h.len]; omega
  refine ⟨hk, ?_⟩
  unfold SS.job
  rw [← h.ps, Int.toNat_natCast]
  simp [List.getD, hk]
set_option maxRecDepth 10000 in
theorem stCounts_any (S : St w0 w r) (k : Nat) (hk : r[k]? = some (storeT g s)) (n : Int) :
    Calls Try.prog 21 #[.pointer (some ⟨g, 0, none⟩), .int .i64 n] w fun e w' => e = .returned (.int .i64 (sCounts s n)) ∧ w = w' := by
  obtain ⟨F, l, I⟩ := S.head k hk
  by_cases h : jobOk n
  · obtain ⟨N, rfl, h1, h2⟩ := jobOk_nat h
    obtain ⟨hkl, hj⟩ := I.job h2
    obtain ⟨c, hc⟩ : ∃ c, 2 + N * 4 = c := ⟨_, rfl⟩
    obtain ⟨x0, x1, x2, x3⟩ := I.sh hkl c hc
    have e : Hid (jobV g N = .pointer (some ⟨g, c, none⟩)) := by rw [Hid, jobV, if_pos h, ← hc]; rfl
    have e2 : Hid (sCounts s N = (l[N]).e1) := by rw [Hid, sCounts, if_pos h, hj]; rfl
    rw [e2.out]
    clear hc h S I hj
    go_enter Try.func21, Try.ntmps21
    go_wp2_with fail
    refine (stJob_any g N _).mono ?_
    rintro e' w1 ⟨rfl, rfl⟩
    rw [e.out]
    go_wp2
    go_ret
    exact ⟨rfl, rfl⟩
  · have e : Hid (jobV g n = .pointer none) := by rw [Hid, jobV, if_neg h]
    have e2 : Hid (sCounts s n = 0) := by rw [Hid, sCounts, if_neg h]
    rw [e2.out]
    clear h S I
    go_enter Try.func21, Try.ntmps21
    go_wp2_with fail
    refine (stJob_any g n _).mono ?_
    rintro e' w1 ⟨rfl, rfl⟩
    rw [e.out]
    go_wp2
    go_ret
    exact ⟨rfl, rfl⟩
def Sh.zero : Sh := ⟨0, ⟨none, 0, 0, []⟩, 0, ⟨none, 0, 0, []⟩⟩
theorem BS.Lie.zero (w : World) (F : Nat → Prop) (g : Nat) : BS.Lie w F g ⟨none, 0, 0, []⟩ := ⟨⟨rfl, Nat.le_refl _, Nat.zero_le _, fun _ => rfl⟩, At.nil _ _, fun y h => by cases h⟩
theorem mem_set' {l : List Sh} {k : Nat} {y : Sh} {P : Sh → Prop} (h : ∀ x ∈ l, P x) (hy : P y) : ∀ x ∈ l.set k y, P x := fun x hx => (List.mem_or_eq_of_mem_set hx).elim (h x) (fun e => e ▸ hy)
theorem map_ps_set (l : List Sh) (k : Nat) (y : Sh) : (l.set k y).map Sh.ps = (l.map Sh.ps).set k y.ps := List.map_set ..
/-- Four stores over a shelf. -/
theorem IsStore.set4 {w : World} {B : Nat} {F : Nat → Prop} {g : Nat} {s : SS} {l : List Sh} (I : IsStore w B F g s l) {N : Nat} (hN : N < l.length) (c : Nat) (hc : 2 + N * 4 = c) (y : Sh) (h1 : y.d1.Lie w F g ∧ y.d2.Lie w F g) (h2 : y.d1.n ≤ 100 ∧ y.d2.n ≤ 100) :
    let w' := (((w.setCell ⟨g, c, none⟩ (.int .i64 y.e1)).setCell ⟨g, c + 1, none⟩ (.slice y.d1.a y.d1.n y.d1.c)).setCell ⟨g, c + 2, none⟩ (.int .i64 y.e2)).setCell ⟨g, c + 3, none⟩ (.slice y.d2.a y.d2.n y.d2.c)
    IsStore w' B F g (s.put N y.ps) (l.set N y) ∧ Touch (fun b => b = g) w w' := by
  subst hc
  intro w'
  have ht : Touch (fun b => b = g) w w' := tch (tch (tch (tch (tch0 g w) _ _) _ _) _ _) _ _
  refine ⟨I.upd ht ?_ (by rw [List.length_set]; exact I.len) (by rw [map_ps_set, I.ps]; rfl) (mem_set' I.data h1) (mem_set' I.small h2), ht⟩
  have r1 := rowSet (rowSet (rowSet (rowSet I.row (i := 2 + N * 4) (.int .i64 y.e1)) (i := 2 + N * 4 + 1) (.slice y.d1.a y.d1.n y.d1.c)) (i := 2 + N * 4 + 2) (.int .i64 y.e2)) (i := 2 + N * 4 + 3) (.slice y.d2.a y.d2.n y.d2.c)
  have e1 := stC_set s l N 0 ⟨y.e1, l[N].d1, l[N].e2, l[N].d2⟩ (.int .i64 y.e1) hN (by decide) rfl
  have hN1 : N < (l.set N ⟨y.e1, l[N].d1, l[N].e2, l[N].d2⟩).length := by rw [List.length_set]; exact hN
  have e2 := stC_set s _ N 1 ⟨y.e1, y.d1, l[N].e2, l[N].d2⟩ (.slice y.d1.a y.d1.n y.d1.c) hN1 (by decide) (by rw [List.getElem_set_self]; rfl)
  rw [List.set_set] at e2
  have hN2 : N < (l.set N ⟨y.e1, y.d1, l[N].e2, l[N].d2⟩).length := by rw [List.length_set]; exact hN
  have e3 := stC_set s _ N 2 ⟨y.e1, y.d1, y.e2, l[N].d2⟩ (.int .i64 y.e2) hN2 (by decide) (by rw [List.getElem_set_self]; rfl)
  rw [List.set_set] at e3
  have hN3 : N < (l.set N ⟨y.e1, y.d1, y.e2, l[N].d2⟩).length := by rw [List.length_set]; exact hN
  have e4 := stC_set s _ N 3 y (.slice y.d2.a y.d2.n y.d2.c) hN3 (by decide) (by rw [List.getElem_set_self]; rfl)
  rw [List.set_set] at e4
  rw [show stC (s.put N y.ps) (l.set N y) = stC s (l.set N y) from rfl, e4, e3, e2, e1]
  exact r1
/-- Two stores over what is staged. -/
theorem IsStore.set2 {w : World} {B : Nat} {F : Nat → Prop} {g : Nat} {s : SS} {l : List Sh} (I : IsStore w B F g s l) {N : Nat} (hN : N < l.length) (c : Nat) (hc : 2 + N * 4 = c) (e : Int) (d : BS) (h1 : d.Lie w F g) (h2 : d.n ≤ 100) :
    let w' := (w.setCell ⟨g, c + 2, none⟩ (.int .i64 e)).setCell ⟨g, c + 3, none⟩ (.slice d.a d.n d.c)
    IsStore w' B F g (s.put N ⟨l[N].e1, l[N].d1.l, e, d.l⟩) (l.set N ⟨l[N].e1, l[N].d1, e, d⟩) ∧ Touch (fun b => b = g) w w' := by
  subst hc
  intro w'
  have ht : Touch (fun b => b = g) w w' := tch (tch (tch0 g w) _ _) _ _
  refine ⟨I.upd ht ?_ (by rw [List.length_set]; exact I.len) (by rw [map_ps_set, I.ps]; rfl) (mem_set' I.data ⟨(I.data _ (List.getElem_mem hN)).1, h1⟩) (mem_set' I.small ⟨(I.small _ (List.getElem_mem hN)).1, h2⟩), ht⟩
  have r1 := rowSet (rowSet I.row (i := 2 + N * 4 + 2) (.int .i64 e)) (i := 2 + N * 4 + 3) (.slice d.a d.n d.c)
  have e3 := stC_set s l N 2 ⟨l[N].e1, l[N].d1, e, l[N].d2⟩ (.int .i64 e) hN (by decide) rfl
  have hN3 : N < (l.set N ⟨l[N].e1, l[N].d1, e, l[N].d2⟩).length := by rw [List.length_set]; exact hN
  have e4 := stC_set s _ N 3 ⟨l[N].e1, l[N].d1, e, d⟩ (.slice d.a d.n d.c) hN3 (by decide) (by rw [List.getElem_set_self]; rfl)
  rw [List.set_set] at e4
  show w'.heap[g]? = some (.cells (stC s (l.set N ⟨l[N].e1, l[N].d1, e, d⟩)).toArray 82 (0, 0))
  rw [e4, e3]
  exact r1
set_option maxRecDepth 10000 in
theorem stEnd_any (S : St w0 w r) (k : Nat) (hk : r[k]? = some (storeT g s)) (n : Int) :
    Calls Try.prog 25 #[.pointer (some ⟨g, 0, none⟩), .int .i64 n] w fun e w' => e = .returned (.tuple #[]) ∧ St w0 w' (r.set k (storeT g (sEnd s n))) := by
  obtain ⟨F, l, I, hu⟩ := S.storeUpd k hk
  by_cases h : jobOk n
  · obtain ⟨N, rfl, h1, h2⟩ := jobOk_nat h
    obtain ⟨hkl, hj⟩ := I.job h2
    obtain ⟨c, hc⟩ : ∃ c, 2 + N * 4 = c := ⟨_, rfl⟩
    obtain ⟨x0, x1, x2, x3⟩ := I.sh hkl c hc
    have f0 := I.frozen c
    have f1 := I.frozen (c + 1)
    have f2 := I.frozen (c + 2)
    have f3 := I.frozen (c + 3)
    have e : Hid (jobV g N = .pointer (some ⟨g, c, none⟩)) := by rw [Hid, jobV, if_pos h, ← hc]; rfl
    have I4 := I.set4 hkl c hc Sh.zero ⟨BS.Lie.zero _ _ _, BS.Lie.zero _ _ _⟩ ⟨by simp [Sh.zero], by simp [Sh.zero]⟩
    have S4 := hid (hu _ _ _ I4.1 I4.2)
    rw [show s.put N Sh.zero.ps = sEnd s N by unfold sEnd; rw [if_pos h]; rfl] at S4
    clear hc h S I hj hu I4
    go_enter Try.func25, Try.ntmps25
    go_wp2_with fail
    refine (stJob_any g N _).mono ?_
    rintro e' w1 ⟨rfl, rfl⟩
    rw [e.out]
    go_wp2
    go_end0
    exact ⟨rfl, S4.out⟩
  · have e : Hid (jobV g n = .pointer none) := by rw [Hid, jobV, if_neg h]
    have S4 : Hid (St w0 w (r.set k (storeT g (sEnd s n)))) := by
      rw [Hid, sEnd, if_neg h]
      have : r.set k (storeT g s) = r := by
        refine List.ext_getElem? fun i => ?_
        by_cases hi : k = i
        · subst hi; rw [List.getElem?_set_self (List.getElem?_eq_some_iff.1 hk).1, hk]
        · rw [List.getElem?_set_ne hi]
      rw [this]; exact S
    clear h S I hu
    go_enter Try.func25, Try.ntmps25
    go_wp2_with fail
    refine (stJob_any g n _).mono ?_
    rintro e' w1 ⟨rfl, rfl⟩
    rw [e.out]
    go_wp2
    go_end0
    exact ⟨rfl, S4.out⟩
end

end Go.Proofs.Ytiilhfmmclhflaa
