/- Stores: their cells, and the walks of store's functions. Stores: what their methods do. Stores: Get, Commit, Stage, New. Stores: Stage, New. Stores: New; what a store's numbers are. -/
import Derived.Test.YtilobmefomoemaaOwnC
import Derived.Test.YtilobmefomoemaaHeld
import Derived.Test.YtilobmefomoemaaEqs
namespace Go.Proofs.Ytilobmefomoemaa
set_option linter.unusedVariables false
set_option linter.unusedSimpArgs false
open Go.RowKit

/-- A shelf as it lies. -/
structure Sh where
  e1 : Int
  d1 : BS
  e2 : Int
  d2 : BS
def Sh.cs (x : Sh) : List Value := [.int .i64 x.e1, .slice x.d1.a x.d1.n x.d1.c, .int .i64 x.e2, .slice x.d2.a x.d2.n x.d2.c]
def shC (l : List Sh) : List Value := l.flatMap Sh.cs
theorem shC_len : ∀ l : List Sh, (shC l).length = l.length * 4
  | [] => rfl
  | x :: l => by
    have := shC_len l
    rw [shC, List.flatMap_cons, List.length_append, show l.flatMap Sh.cs = shC l from rfl, this, List.length_cons]
    show 4 + _ = _
    omega
theorem shC_get : ∀ (l : List Sh) (k j : Nat) (hk : k < l.length), j < 4 → (shC l)[k * 4 + j]? = (l[k]).cs[j]?
  | [], k, j, hk, _ => by simp at hk
  | x :: l, 0, j, hk, hj => by
    rw [shC, List.flatMap_cons, Nat.zero_mul, Nat.zero_add, List.getElem?_append_left (by show j < 4; exact hj)]; rfl
  | x :: l, k + 1, j, hk, hj => by
    rw [shC, List.flatMap_cons, List.getElem?_append_right (by show 4 ≤ _; omega)]
    have := shC_get l k j (by simpa using hk) hj
    rw [show (k + 1) * 4 + j - x.cs.length = k * 4 + j by show (k + 1) * 4 + j - 4 = _; omega]
    exact this
theorem shC_set : ∀ (l : List Sh) (k j : Nat) (y : Sh) (u : Value) (hk : k < l.length), j < 4 → y.cs = (l[k]).cs.set j u → shC (l.set k y) = (shC l).set (k * 4 + j) u
  | [], k, j, _, _, hk, _, _ => by simp at hk
  | x :: l, 0, j, y, u, hk, hj, h => by
    simp only [List.getElem_cons_zero] at h
    rw [List.set_cons_zero, shC, shC, List.flatMap_cons, List.flatMap_cons, h, Nat.zero_mul, Nat.zero_add, List.set_append_left _ _ (by show j < 4; exact hj)]
  | x :: l, k + 1, j, y, u, hk, hj, h => by
    simp only [List.getElem_cons_succ] at h
    have := shC_set l k j y u (by simpa using hk) hj h
    rw [List.set_cons_succ, shC, shC, List.flatMap_cons, List.flatMap_cons, List.set_append_right _ _ (by show 4 ≤ _; omega)]
    rw [show (k + 1) * 4 + j - x.cs.length = k * 4 + j by show (k + 1) * 4 + j - 4 = _; omega]
    congr 1
/-- A shelf: its checkpoint that counts, and the one that is staged (of the epoch 0: none). -/
structure PS where
  ce : Int
  cd : List UInt8
  se : Int
  sd : List UInt8
def Sh.ps (x : Sh) : PS := ⟨x.e1, x.d1.l, x.e2, x.d2.l⟩
/-- A store. -/
structure SS where
  room : Int
  term : Int
  js : List PS
  writes : Nat
def stC (s : SS) (l : List Sh) : List Value := .int .i64 s.room :: .int .i64 s.term :: (shC l ++ [.int .i64 (s.writes : Int)])
structure BS.Lie (w : World) (F : Nat → Prop) (g : Nat) (x : BS) : Prop where
  hd : BS.Hd x
  at_ : At w x.a x.l
  own : ∀ y, x.a = some y → F y.block ∧ y.block ≠ g
theorem BS.Lie.touch {w w' : World} {F M : Nat → Prop} {g : Nat} {x : BS} (h : x.Lie w F g) (ht : Touch M w w') (hM : ∀ b, F b → b ≠ g → ¬ M b) : x.Lie w' F g :=
  ⟨h.hd, h.at_.touch ht (fun y hy => hM _ (h.own y hy).1 (h.own y hy).2), h.own⟩
structure IsStore (w : World) (B : Nat) (F : Nat → Prop) (g : Nat) (s : SS) (l : List Sh) : Prop where
  base : B ≤ g
  row : w.heap[g]? = some (.cells (stC s l).toArray 97 (0, 0))
  foot : F g
  len : l.length = 25
  ps : l.map Sh.ps = s.js
  data : ∀ x ∈ l, x.d1.Lie w F g ∧ x.d2.Lie w F g
  small : ∀ x ∈ l, x.d1.n ≤ 100 ∧ x.d2.n ≤ 100
  low : ∀ b, F b → B ≤ b ∧ b < w.heap.size
def storeT (g : Nat) (s : SS) : Thing where
  lies := fun w B F => ∃ l, IsStore w B F g s l
  touch := fun ⟨l, h⟩ ht _ hM => ⟨l, h.base, by rw [ht.block g (Array.getElem?_eq_some_iff.1 h.row).1 (hM g h.foot)]; exact h.row, h.foot, h.len, h.ps, fun x hx => ⟨(h.data x hx).1.touch ht (fun b hb _ => hM b hb), (h.data x hx).2.touch ht (fun b hb _ => hM b hb)⟩, h.small, fun b hb => ⟨(h.low b hb).1, Nat.lt_of_lt_of_le (h.low b hb).2 ht.size⟩⟩
  low := fun ⟨_, h⟩ => h.low
theorem IsStore.cell {w : World} {B : Nat} {F : Nat → Prop} {g : Nat} {s : SS} {l : List Sh} (h : IsStore w B F g s l) (i : Nat) : w.cell? ⟨g, i, none⟩ = (stC s l)[i]? := by
  rw [cell_of_row w g i _ _ _ h.row]; simp
theorem IsStore.frozen {w : World} {B : Nat} {F : Nat → Prop} {g : Nat} {s : SS} {l : List Sh} (h : IsStore w B F g s l) (i : Nat) : w.frozen? ⟨g, i, none⟩ = false := frozen_of_row w g i _ _ h.row
theorem stC_sh (s : SS) (l : List Sh) (k j : Nat) (hk : k < l.length) (hj : j < 4) : (stC s l)[2 + (k * 4 + j)]? = (l[k]).cs[j]? := by
  rw [Nat.add_comm 2]
  show (shC l ++ _)[k * 4 + j]? = _
  rw [List.getElem?_append_left (by rw [shC_len]; omega), shC_get l k j hk hj]
theorem stC_writes (s : SS) (l : List Sh) (h : l.length = 25) : (stC s l)[102]? = some (.int .i64 (s.writes : Int)) := by
  show (shC l ++ _)[100]? = _
  rw [List.getElem?_append_right (by rw [shC_len]; omega), shC_len, h]; rfl
/-- A shelf's cells. -/
theorem IsStore.sh {w : World} {B : Nat} {F : Nat → Prop} {g : Nat} {s : SS} {l : List Sh} (h : IsStore w B F g s l) {k : Nat} (hk : k < l.length) (c : Nat) (hc : 2 + k * 4 = c) :
    w.cell? ⟨g, c, none⟩ = some (.int .i64 (l[k]).e1) ∧ w.cell? ⟨g, c + 1, none⟩ = some (.slice (l[k]).d1.a (l[k]).d1.n (l[k]).d1.c) ∧ w.cell? ⟨g, c + 2, none⟩ = some (.int .i64 (l[k]).e2) ∧ w.cell? ⟨g, c + 3, none⟩ = some (.slice (l[k]).d2.a (l[k]).d2.n (l[k]).d2.c) := by
  subst hc
  refine ⟨?_, ?_, ?_, ?_⟩
  · rw [h.cell]; exact stC_sh s l k 0 hk (by decide)
  · rw [h.cell]; exact stC_sh s l k 1 hk (by decide)
  · rw [h.cell]; exact stC_sh s l k 2 hk (by decide)
  · rw [h.cell]; exact stC_sh s l k 3 hk (by decide)
theorem loadSh {w : World} {B : Nat} {F : Nat → Prop} {g : Nat} {s : SS} {l : List Sh} (h : IsStore w B F g s l) : (loadCells ⟨g, 2, none⟩ 100).run Try.prog w = .ok (shC l).toArray w := by
  have hl : (shC l).length = 100 := by rw [shC_len, h.len]
  rw [← hl]
  refine run_loadCells_list w ⟨g, 2, none⟩ (shC l) fun j v hj => ?_
  have e : (⟨g, 2, none⟩ : Addr).add j = ⟨g, 2 + j, none⟩ := by simp [Addr.add_lit]
  rw [e, h.cell, Nat.add_comm]
  show (shC l ++ _)[j]? = _
  rw [List.getElem?_append_left (List.getElem?_eq_some_iff.1 hj).1]
  exact hj
/-- A load of whatever lies behind an address. -/
theorem wpList_loadV {P : Program} {ops : Array Oper} {rest : List Oper} {o : Oper} {a : Act} {w : World} {Q : Exit → Act → World → Prop} (hgd : o.guard = none) (ty : TypeId) (x : Operand) (ho : o.op = .load ty x)
    (p : Addr) (hx : a.eval x = .pointer (some p)) (v : Value) (hl : (loadVar ty p).run P w = .ok v w) (h : wpList P ops Q rest (a.put o.dst v) w) : wpList P ops Q (o :: rest) a w :=
  wpList_plain hgd fun _ hK => by
    unfold Oper.wp execOp
    simp only [ho, hx, Instr.loadAt, Instr.sureAddr, Sem.run_bind, Sem.run_pure, Result.andThen_ok, hl]
    exact hK _ _ h
theorem loadArr {w : World} {B : Nat} {F : Nat → Prop} {g : Nat} {s : SS} {l : List Sh} (h : IsStore w B F g s l) : (loadVar 90 ⟨g, 2, none⟩).run Try.prog w = .ok (.agg (shC l).toArray) w := by
  have ht : Try.prog.underlying 90 = some (.array 25 89) := by kernel_rfl
  have hs : (sizeOf 90).run Try.prog w = .ok 100 w := by kernel_rfl
  unfold loadVar
  simp only [isAgg, Sem.run_bind, run_underlying ht, Result.andThen_ok, Sem.run_pure, if_true, hs, loadSh h]
def usedP (l : List PS) : Nat := (l.map fun x => x.cd.length + x.sd.length).sum
def usedS (l : List Sh) (k : Nat) : Nat := ((l.take k).map fun x => x.d1.n + x.d2.n).sum
theorem usedS_step {l : List Sh} {k : Nat} (h : k < l.length) : usedS l (k + 1) = usedS l k + (l[k].d1.n + l[k].d2.n) := by
  unfold usedS
  rw [List.take_succ_eq_append_getElem h, List.map_append, List.sum_append]
  simp
theorem usedS_le {l : List Sh} (h : ∀ x ∈ l, x.d1.n ≤ 100 ∧ x.d2.n ≤ 100) : ∀ k, k ≤ l.length → usedS l k ≤ 200 * k
  | 0, _ => by simp [usedS]
  | k + 1, hk => by
    have h1 := usedS_le h k (by omega)
    have h2 := h _ (List.getElem_mem (show k < l.length by omega))
    rw [usedS_step (by omega)]; omega
section
variable {w0 w : World} {r : List Thing} {g : Nat} {s : SS}
theorem idxSh (l : List Sh) (h : l.length = 25) (k : Nat) (hk : k < 25) (wx : World) : (Instr.index 90 (.agg (shC l).toArray) (.int .i64 (k : Int))).run Try.prog wx = .ok (.agg (l[k]'(by omega)).cs.toArray) wx := by
  have ht : Try.prog.underlying 90 = some (.array 25 89) := by kernel_rfl
  have hs : (sizeOf 89).run Try.prog wx = .ok 4 wx := by kernel_rfl
  have hst : Try.prog.underlying 89 = some (.struct (Try.prog.fieldsOf 89)) := by kernel_rfl
  have htake : ((shC l).drop (k * 4)).take 4 = (l[k]'(by omega)).cs := by
    refine List.ext_getElem? fun i => ?_
    rcases Nat.lt_or_ge i 4 with hi | hi
    · rw [List.getElem?_take_of_lt hi, List.getElem?_drop, shC_get l k i (by omega) hi]
    · rw [List.getElem?_eq_none (by rw [List.length_take]; omega), List.getElem?_eq_none (by show 4 ≤ i; exact hi)]
  have hext : (shC l).toArray.extract (k * 4) (k * 4 + 4) = (l[k]'(by omega)).cs.toArray := by
    apply Array.ext'
    rw [Array.toList_extract]
    simp only [List.extract_eq_take_drop]
    rw [show k * 4 + 4 - k * 4 = 4 by omega]
    exact htake
  have h0 : 0 ≤ (k : Int) ∧ (k : Int) < 25 := by omega
  have hp : (part 89 (shC l).toArray (k * 4)).run Try.prog wx = .ok (.agg (l[k]'(by omega)).cs.toArray) wx := by
    unfold part
    simp only [isAgg, Sem.run_bind, run_underlying hst, Result.andThen_ok, Sem.run_pure, if_true, hs, hext]
  have h1 : ((k : Int)).toNat * 4 = k * 4 := by omega
  unfold Instr.index
  simp only [asIntOf, Sem.run_bind, Sem.run_pure, Result.andThen_ok, run_underlying ht, hs]
  rw [if_pos (by exact h0), Sem.run_bind, hs, Result.andThen_ok, h1, hp]
set_option maxRecDepth 10000 in
theorem stUsed_any (S : St w0 w r) (k : Nat) (hk : r[k]? = some (storeT g s)) :
    Calls Try.prog 50 #[.pointer (some ⟨g, 0, none⟩)] w fun e w' => e = .returned (.int .i64 (usedP s.js : Int)) ∧ Below w.heap.size w w' := by
  obtain ⟨F, l, I⟩ := S.head k hk
  have hl := hid (loadArr I)
  have HL := hid I.len
  have hps : Hid (usedS l 25 = usedP s.js) := by
    rw [Hid, ← I.ps]; unfold usedS usedP
    rw [List.take_of_length_le (by have := I.len; omega), List.map_map]
    congr 1
    refine List.map_congr_left fun x hx => ?_
    have h1 := (I.data x hx).1.hd.len
    have h2 := (I.data x hx).2.hd.len
    show x.d1.n + x.d2.n = x.d1.l.length + x.d2.l.length
    omega
  have hsm := hid I.small
  clear S hk
  go_enter Try.func50, Try.ntmps50
  go_wp2_with (refine wpList_loadV rfl 90 (.tmp 10) rfl ⟨g, 2, none⟩ rfl _ hl.out ?_)
  go_loopw [3, 12] (fun q i wr => ∃ k : Nat, k ≤ 25 ∧ i = .int .i64 k ∧ q = .int .i64 (usedS l k : Int) ∧ Below w.heap.size w wr) (fun _ i _ => 25 - (intOf i).toNat)
  case atStart => exact ⟨0, by omega, rfl, by simp [usedS], Below.refl _ _⟩
  case round =>
    obtain ⟨k, hk, rfl, rfl, hb⟩ := hrel
    by_cases hlt : k < 25
    case neg =>
      have g0 : decide ((k : Int) < 25) = false := decide_eq_false (by omega)
      have ek : k = 25 := by omega
      subst ek
      clear hlt
      go_wp2
      go_ret
      exact ⟨by rw [← hps.out]; rfl, hb⟩
    have g0 : decide ((k : Int) < 25) = true := decide_eq_true (by omega)
    have hkl : k < l.length := by rw [HL.out]; exact hlt
    have ix := fun wx => idxSh l HL.out k hlt wx
    have hst := usedS_step hkl
    have hsm2 := hsm.out _ (List.getElem_mem hkl)
    have hle := usedS_le hsm.out k (by omega)
    obtain ⟨x, hx⟩ : ∃ x, l[k] = x := ⟨_, rfl⟩
    have hxe : ∀ hkl' : k < l.length, l[k]'hkl' = x := fun _ => hx
    simp only [hxe] at ix
    rw [hx] at hst hsm2
    obtain ⟨U, hU⟩ : ∃ U, usedS l k = U := ⟨_, rfl⟩
    rw [hU] at hst hle ⊢
    have HST := hid hst
    have SB : St w wr [] := ⟨hb, (St.start w).grow hb |>.has⟩
    clear hx hxe hU hst hsm HL hps hl hb I
    rw [show x.cs.toArray = #[.int .i64 x.e1, .slice x.d1.a x.d1.n x.d1.c, .int .i64 x.e2, .slice x.d2.a x.d2.n x.d2.c] from rfl] at ix
    go_wp2
    go_roundw
    case rel => exact ⟨k + 1, by omega, by go_num, by rw [HST.out]; go_num, (SB.alloc _).fin⟩
    case measure => simp [intOf]; omega
end

end Go.Proofs.Ytilobmefomoemaa

namespace Go.Proofs.Ytilobmefomoemaa
set_option linter.unusedVariables false
set_option linter.unusedSimpArgs false
open Go.RowKit

def PS.nil : PS := ⟨0, [], 0, []⟩
def SS.job (s : SS) (n : Int) : PS := s.js.getD n.toNat PS.nil
def jobOk (n : Int) : Prop := 1 ≤ n ∧ n ≤ 24
instance (n : Int) : Decidable (jobOk n) := inferInstanceAs (Decidable (1 ≤ n ∧ n ≤ 24))
def SS.put (s : SS) (n : Int) (x : PS) : SS := { s with js := s.js.set n.toNat x }
def sStage (s : SS) (term job epoch : Int) (d : List UInt8) : Int × SS :=
  if term < s.term then (6, s)
  else if ¬ jobOk job ∨ epoch < 1 ∨ 1000000 < epoch ∨ d.length = 0 ∨ 100 < d.length then (1, s)
  else if epoch ≤ (s.job job).ce ∨ epoch < (s.job job).se then (6, s)
  else if epoch = (s.job job).se then (0, s)
  else if s.room < (usedP s.js : Int) - (s.job job).sd.length + d.length then (3, s)
  else (0, { s.put job { s.job job with se := epoch, sd := d } with writes := s.writes + 1 })
def sCommit (s : SS) (job epoch : Int) : Int × SS :=
  if ¬ jobOk job ∨ epoch < 1 ∨ epoch ≠ (s.job job).ce ∧ epoch ≠ (s.job job).se then (4, s)
  else if epoch = (s.job job).se then (0, s.put job ⟨(s.job job).se, (s.job job).sd, 0, []⟩)
  else (0, s)
def sGet (s : SS) (job epoch : Int) : Option (List UInt8) :=
  if ¬ jobOk job ∨ epoch < 1 then none
  else if (s.job job).ce = epoch then some (s.job job).cd
  else if (s.job job).se = epoch then some (s.job job).sd
  else none
def sEnd (s : SS) (job : Int) : SS := if jobOk job then s.put job PS.nil else s
def sFence (s : SS) (term : Int) : SS := { s with term := max s.term term }
def sCounts (s : SS) (job : Int) : Int := if jobOk job then (s.job job).ce else 0
def SS.new (room : Int) : SS := ⟨max 0 room, 0, List.replicate 25 PS.nil, 0⟩

def jobV (g : Nat) (n : Int) : Value := if jobOk n then .pointer (some ⟨g, 2 + n.toNat * 4, none⟩) else .pointer none
set_option maxRecDepth 10000 in
theorem stJob_any (g : Nat) (n : Int) (w : World) : Calls Try.prog 46 #[.pointer (some ⟨g, 0, none⟩), .int .i64 n] w fun e w' => e = .returned (jobV g n) ∧ w = w' := by
  have ht : Try.prog.underlying 90 = some (.array 25 89) := by kernel_rfl
  by_cases h : jobOk n
  · obtain ⟨h1, h2⟩ := h
    obtain ⟨N, rfl⟩ := Int.eq_ofNat_of_zero_le (show 0 ≤ n by omega)
    have e : Hid (jobV g N = .pointer (some ⟨g, 2 + N * 4, none⟩)) := by rw [Hid, jobV, if_pos ⟨h1, h2⟩]; rfl
    have g1 : decide ((N : Int) < 1) = false := decide_eq_false (by omega)
    have g1n : decide (N < 1) = false := decide_eq_false (by omega)
    have g2 : decide ((24 : Int) < (N : Int)) = false := decide_eq_false (by omega)
    have g2n : decide (24 < N) = false := decide_eq_false (by omega)
    have ix : ∀ wx, (Instr.indexAt 90 (.pointer (some ⟨g, 2, none⟩)) (.int .i64 (N : Int))).run Try.prog wx = .ok (.pointer (some ⟨g, 2 + N * 4, none⟩)) wx := by
      intro wx
      have hs : (sizeOf 89).run Try.prog wx = .ok 4 wx := by kernel_rfl
      have h0 : 0 ≤ (N : Int) ∧ (N : Int) < 25 := by omega
      have hadd : (⟨g, 2, none⟩ : Addr).add (N * 4) = ⟨g, 2 + N * 4, none⟩ := by simp [Addr.add_lit]
      unfold Instr.indexAt
      simp only [asIntOf, Sem.run_bind, Sem.run_pure, Result.andThen_ok, run_underlying ht, Instr.sureAddr]
      rw [if_pos (by exact h0)]
      simp only [Sem.run_bind, hs, Result.andThen_ok, Sem.run_pure, Int.toNat_natCast, hadd]
    go_enter Try.func46, Try.ntmps46
    go_wp2
    go_ret
    exact ⟨by rw [e.out]; rfl, rfl⟩
  · have e : Hid (jobV g n = .pointer none) := by rw [Hid, jobV, if_neg h]
    have hn : n < 1 ∨ 24 < n := by unfold jobOk at h; omega
    clear h
    go_enter Try.func46, Try.ntmps46
    by_cases h1 : n < 1
    · have g1 : decide (n < 1) = true := decide_eq_true h1
      go_wp2
      go_ret
      exact ⟨by rw [e.out]; rfl, rfl⟩
    · have g1 : decide (n < 1) = false := decide_eq_false h1
      have g2 : decide (24 < n) = true := decide_eq_true (by omega)
      go_wp2
      go_ret
      exact ⟨by rw [e.out]; rfl, rfl⟩
section
variable {w0 w : World} {r : List Thing} {g : Nat} {s : SS}
theorem tch {a w : World} {g : Nat} (h : Touch (fun b => b = g) a w) (i : Nat) (v : Value) : Touch (fun b => b = g) a (w.setCell ⟨g, i, none⟩ v) := h.setCell (p := ⟨g, i, none⟩) (.inl rfl) v
theorem tch0 (g : Nat) (w : World) : Touch (fun b => b = g) w w := Touch.refl _ _
theorem rowSet {w : World} {g i : Nat} {L : List Value} {T : TypeId} (h : w.heap[g]? = some (.cells L.toArray T (0, 0))) (v : Value) : (w.setCell ⟨g, i, none⟩ v).heap[g]? = some (.cells (L.set i v).toArray T (0, 0)) := by
  have := heap_setCell_same w g i _ _ v h
  simpa using this
theorem stC_set (s : SS) (l : List Sh) (k j : Nat) (y : Sh) (u : Value) (hk : k < l.length) (hj : j < 4) (h : y.cs = (l[k]).cs.set j u) : stC s (l.set k y) = (stC s l).set (2 + (k * 4 + j)) u := by
  rw [Nat.add_comm 2]
  unfold stC
  rw [List.set_cons_succ, List.set_cons_succ, List.set_append_left _ _ (by rw [shC_len]; omega), shC_set l k j y u hk hj h]
/-- What a store's own block alone turns. -/
theorem IsStore.upd {w w' : World} {B : Nat} {F : Nat → Prop} {g : Nat} {s s' : SS} {l l' : List Sh} (h : IsStore w B F g s l) (ht : Touch (fun b => b = g) w w') (hrow : w'.heap[g]? = some (.cells (stC s' l').toArray 97 (0, 0)))
    (hl : l'.length = 25) (hps : l'.map Sh.ps = s'.js) (hd : ∀ x ∈ l', x.d1.Lie w F g ∧ x.d2.Lie w F g) (hs : ∀ x ∈ l', x.d1.n ≤ 100 ∧ x.d2.n ≤ 100) : IsStore w' B F g s' l' :=
  ⟨h.base, hrow, h.foot, hl, hps, fun x hx => ⟨(hd x hx).1.touch ht (fun b _ hne he => hne he), (hd x hx).2.touch ht (fun b _ hne he => hne he)⟩, hs, fun b hb => ⟨(h.low b hb).1, Nat.lt_of_lt_of_le (h.low b hb).2 ht.size⟩⟩
theorem St.storeUpd (S : St w0 w r) (k : Nat) (hk : r[k]? = some (storeT g s)) : ∃ F l, IsStore w w0.heap.size F g s l ∧ ∀ (w' : World) (s' : SS) (l' : List Sh), IsStore w' w0.heap.size F g s' l' → Touch (fun b => b = g) w w' → St w0 w' (r.set k (storeT g s')) := by
  obtain ⟨F, ⟨l, I⟩, hu⟩ := S.step k hk
  exact ⟨F, l, I, fun w' s' l' I' ht => hu w' (storeT g s') F ⟨l', I'⟩ (ht.mono fun b hb => by subst hb; exact I.foot) (fun b hb => .inl hb)⟩
theorem jobOk_nat {n : Int} (h : jobOk n) : ∃ N : Nat, n = N ∧ 1 ≤ N ∧ N ≤ 24 := by
  obtain ⟨N, rfl⟩ := Int.eq_ofNat_of_zero_le (show 0 ≤ n by unfold jobOk at h; omega)
  unfold jobOk at h
  exact ⟨N, rfl, by omega, by omega⟩
theorem IsStore.job {w : World} {B : Nat} {F : Nat → Prop} {g : Nat} {s : SS} {l : List Sh} (h : IsStore w B F g s l) {N : Nat} (hN : N ≤ 24) : ∃ (hk : N < l.length), s.job N = (l[N]).ps := by
  have hk : N < l.length := by rw [h.len]; omega
  refine ⟨hk, ?_⟩
  unfold SS.job
  rw [← h.ps, Int.toNat_natCast]
  simp [List.getD, hk]
def Sh.zero : Sh := ⟨0, ⟨none, 0, 0, []⟩, 0, ⟨none, 0, 0, []⟩⟩
theorem BS.Lie.zero (w : World) (F : Nat → Prop) (g : Nat) : BS.Lie w F g ⟨none, 0, 0, []⟩ := ⟨⟨rfl, Nat.le_refl _, Nat.zero_le _, fun _ => rfl⟩, At.nil _ _, fun y h => by cases h⟩
theorem mem_set' {l : List Sh} {k : Nat} {y : Sh} {P : Sh → Prop} (h : ∀ x ∈ l, P x) (hy : P y) : ∀ x ∈ l.set k y, P x := fun x hx => (List.mem_or_eq_of_mem_set hx).elim (h x) (fun e => e ▸ hy)
theorem map_ps_set (l : List Sh) (k : Nat) (y : Sh) : (l.set k y).map Sh.ps = (l.map Sh.ps).set k y.ps := List.map_set ..
/-- Four stores over a shelf. -/
theorem IsStore.set4 {w : World} {B : Nat} {F : Nat → Prop} {g : Nat} {s : SS} {l : List Sh} (I : IsStore w B F g s l) {N : Nat} (hN : N < l.length) (c : Nat) (hc : 2 + N * 4 = c) (y : Sh) (h1 : y.d1.Lie w F g ∧ y.d2.Lie w F g) (h2 : y.d1.n ≤ 100 ∧ y.d2.n ≤ 100) :
    let w' := (((w.setCell ⟨g, c, none⟩ (.int .i64 y.e1)).setCell ⟨g, c + 1, none⟩ (.slice y.d1.a y.d1.n y.d1.c)).setCell ⟨g, c + 2, none⟩ (.int .i64 y.e2)).setCell ⟨g, c + 3, none⟩ (.slice y.d2.a y.d2.n y.d2.c)
    IsStore w' B F g (s.put N y.ps) (l.set N y) ∧ Touch (fun b => b = g) w w' := by
  subst hc
  intro w'
  have ht : Touch (fun b => b = g) w w' := tch (tch (tch (tch (tch0 g w) _ _) _ _) _ _) _ _
  refine ⟨I.upd ht ?_ (by rw [List.length_set]; exact I.len) (by rw [map_ps_set, I.ps]; rfl) (mem_set' I.data h1) (mem_set' I.small h2), ht⟩
  have r1 := rowSet (rowSet (rowSet (rowSet I.row (i := 2 + N * 4) (.int .i64 y.e1)) (i := 2 + N * 4 + 1) (.slice y.d1.a y.d1.n y.d1.c)) (i := 2 + N * 4 + 2) (.int .i64 y.e2)) (i := 2 + N * 4 + 3) (.slice y.d2.a y.d2.n y.d2.c)
  have e1 := stC_set s l N 0 ⟨y.e1, l[N].d1, l[N].e2, l[N].d2⟩ (.int .i64 y.e1) hN (by decide) rfl
  have hN1 : N < (l.set N ⟨y.e1, l[N].d1, l[N].e2, l[N].d2⟩).length := by rw [List.length_set]; exact hN
  have e2 := stC_set s _ N 1 ⟨y.e1, y.d1, l[N].e2, l[N].d2⟩ (.slice y.d1.a y.d1.n y.d1.c) hN1 (by decide) (by rw [List.getElem_set_self]; rfl)
  rw [List.set_set] at e2
  have hN2 : N < (l.set N ⟨y.e1, y.d1, l[N].e2, l[N].d2⟩).length := by rw [List.length_set]; exact hN
  have e3 := stC_set s _ N 2 ⟨y.e1, y.d1, y.e2, l[N].d2⟩ (.int .i64 y.e2) hN2 (by decide) (by rw [List.getElem_set_self]; rfl)
  rw [List.set_set] at e3
  have hN3 : N < (l.set N ⟨y.e1, y.d1, y.e2, l[N].d2⟩).length := by rw [List.length_set]; exact hN
  have e4 := stC_set s _ N 3 y (.slice y.d2.a y.d2.n y.d2.c) hN3 (by decide) (by rw [List.getElem_set_self]; rfl)
  rw [List.set_set] at e4
  rw [show stC (s.put N y.ps) (l.set N y) = stC s (l.set N y) from rfl, e4, e3, e2, e1]
  exact r1
/-- Two stores over what is staged. -/
theorem IsStore.set2 {w : World} {B : Nat} {F : Nat → Prop} {g : Nat} {s : SS} {l : List Sh} (I : IsStore w B F g s l) {N : Nat} (hN : N < l.length) (c : Nat) (hc : 2 + N * 4 = c) (e : Int) (d : BS) (h1 : d.Lie w F g) (h2 : d.n ≤ 100) :
    let w' := (w.setCell ⟨g, c + 2, none⟩ (.int .i64 e)).setCell ⟨g, c + 3, none⟩ (.slice d.a d.n d.c)
    IsStore w' B F g (s.put N ⟨l[N].e1, l[N].d1.l, e, d.l⟩) (l.set N ⟨l[N].e1, l[N].d1, e, d⟩) ∧ Touch (fun b => b = g) w w' := by
  subst hc
  intro w'
  have ht : Touch (fun b => b = g) w w' := tch (tch (tch0 g w) _ _) _ _
  refine ⟨I.upd ht ?_ (by rw [List.length_set]; exact I.len) (by rw [map_ps_set, I.ps]; rfl) (mem_set' I.data ⟨(I.data _ (List.getElem_mem hN)).1, h1⟩) (mem_set' I.small ⟨(I.small _ (List.getElem_mem hN)).1, h2⟩), ht⟩
  have r1 := rowSet (rowSet I.row (i := 2 + N * 4 + 2) (.int .i64 e)) (i := 2 + N * 4 + 3) (.slice d.a d.n d.c)
  have e3 := stC_set s l N 2 ⟨l[N].e1, l[N].d1, e, l[N].d2⟩ (.int .i64 e) hN (by decide) rfl
  have hN3 : N < (l.set N ⟨l[N].e1, l[N].d1, e, l[N].d2⟩).length := by rw [List.length_set]; exact hN
  have e4 := stC_set s _ N 3 ⟨l[N].e1, l[N].d1, e, d⟩ (.slice d.a d.n d.c) hN3 (by decide) (by rw [List.getElem_set_self]; rfl)
  rw [List.set_set] at e4
  show w'.heap[g]? = some (.cells (stC s (l.set N ⟨l[N].e1, l[N].d1, e, d⟩)).toArray 97 (0, 0))
  rw [e4, e3]
  exact r1
end

end Go.Proofs.Ytilobmefomoemaa

namespace Go.Proofs.Ytilobmefomoemaa
set_option linter.unusedVariables false
set_option linter.unusedSimpArgs false
open Go.RowKit
section
variable {w0 w : World} {r : List Thing} {g : Nat} {s : SS}
theorem set_same {l : List Thing} {k : Nat} {x : Thing} (h : l[k]? = some x) : l.set k x = l := by
  refine List.ext_getElem? fun i => ?_
  by_cases hi : k = i
  · subst hi; rw [List.getElem?_set_self (List.getElem?_eq_some_iff.1 h).1, h]
  · rw [List.getElem?_set_ne hi]
/-- What Get tells. -/
def SGPost (w : World) (o : Option (List UInt8)) (e : Ending) (w' : World) : Prop :=
  ∃ a c, e = .returned (.tuple #[.slice a (o.getD []).length c, .bool o.isSome]) ∧ Own w' w.heap.size (.slice a (o.getD []).length c) (o.getD []) ∧ Below w.heap.size w w'
set_option maxRecDepth 10000 in
set_option maxHeartbeats 1600000 in
theorem stGet_any (S : St w0 w r) (k : Nat) (hk : r[k]? = some (storeT g s)) (n ep : Int) :
    Calls Try.prog 61 #[.pointer (some ⟨g, 0, none⟩), .int .i64 n, .int .i64 ep] w fun e w' => SGPost w (sGet s n ep) e w' := by
  obtain ⟨F, l, I⟩ := S.head k hk
  by_cases h : jobOk n
  case neg =>
    have e : Hid (jobV g n = .pointer none) := by rw [Hid, jobV, if_neg h]
    have e2 : Hid (sGet s n ep = none) := by rw [Hid, sGet, if_pos (.inl h)]
    clear h S I
    go_enter Try.func61, Try.ntmps61
    go_wp2_with fail
    refine (stJob_any g n _).mono ?_
    rintro e' w1 ⟨rfl, rfl⟩
    rw [e.out]
    go_wp2
    go_ret2
    rw [e2.out]
    exact ⟨none, 0, rfl, Own.nil _ _, Below.refl _ _⟩
  obtain ⟨N, rfl, h1, h2⟩ := jobOk_nat h
  obtain ⟨hkl, hj⟩ := I.job h2
  obtain ⟨c, hc⟩ : ∃ c, 2 + N * 4 = c := ⟨_, rfl⟩
  have hsh := I.sh hkl c hc
  have e : Hid (jobV g N = .pointer (some ⟨g, c, none⟩)) := by rw [Hid, jobV, if_pos h, ← hc]; rfl
  by_cases hep : ep < 1
  · have e2 : Hid (sGet s N ep = none) := by rw [Hid, sGet, if_pos (.inr hep)]
    have g1 : decide (ep < 1) = true := decide_eq_true hep
    clear h S I hsh hc hj hep
    go_enter Try.func61, Try.ntmps61
    go_wp2_with fail
    refine (stJob_any g N _).mono ?_
    rintro e' w1 ⟨rfl, rfl⟩
    rw [e.out]
    go_wp2
    go_ret2
    rw [e2.out]
    exact ⟨none, 0, rfl, Own.nil _ _, Below.refl _ _⟩
  have g1 : decide (ep < 1) = false := decide_eq_false hep
  obtain ⟨hL1, hL2⟩ := I.data _ (List.getElem_mem hkl)
  obtain ⟨hs1, hs2⟩ := I.small _ (List.getElem_mem hkl)
  obtain ⟨x, hx⟩ : ∃ x, l[N] = x := ⟨_, rfl⟩
  rw [hx] at hsh hL1 hL2 hs1 hs2 hj
  have e2 : Hid (sGet s N ep = if x.e1 = ep then some x.d1.l else if x.e2 = ep then some x.d2.l else none) := by
    rw [Hid, sGet, if_neg (by rintro (q | q); exact q h; exact hep q), hj]; rfl
  clear h S I hc hj hep hx
  obtain ⟨x0, x1, x2, x3⟩ := hsh
  have q0 : ∀ wx, (Instr.index 124 (.agg #[.int .i64 x.e1, .slice x.d1.a x.d1.n x.d1.c, .int .i64 x.e2, .slice x.d2.a x.d2.n x.d2.c]) (.int .i64 0)).run Try.prog wx = .ok (.agg #[.int .i64 x.e1, .slice x.d1.a x.d1.n x.d1.c]) wx := fun _ => rfl
  have q1 : ∀ wx, (Instr.index 124 (.agg #[.int .i64 x.e1, .slice x.d1.a x.d1.n x.d1.c, .int .i64 x.e2, .slice x.d2.a x.d2.n x.d2.c]) (.int .i64 1)).run Try.prog wx = .ok (.agg #[.int .i64 x.e2, .slice x.d2.a x.d2.n x.d2.c]) wx := fun _ => rfl
  go_enter Try.func61, Try.ntmps61
  go_wp2_with fail
  refine (stJob_any g N _).mono ?_
  rintro e' w1 ⟨rfl, rfl⟩
  rw [e.out]
  go_wp2_with fail
  refine wp_region_held_drew (S := (fun w' => w'.cell? ⟨g, c, none⟩ = some (.int .i64 x.e1) ∧ w'.cell? ⟨g, c + 1, none⟩ = some (.slice x.d1.a x.d1.n x.d1.c) ∧ w'.cell? ⟨g, c + 2, none⟩ = some (.int .i64 x.e2) ∧ w'.cell? ⟨g, c + 3, none⟩ = some (.slice x.d2.a x.d2.n x.d2.c))) (by kernel_rfl) (by exact ⟨x0, x1, x2, x3⟩) (fun hHeld => ?_)
  change wpAnyH _ _ _ _ _ 10 (Array.replicate 10 false) _ _
  refine wpAnyH_take (i := 0) (v := ?v1) (ops_at rfl) (by kernel_rfl) (by kernel_rfl) (by kernel_rfl) (fun _ _ _ h => h) (Or.inl ⟨by rfl, ?hy1⟩) (by assumption) ?rest1
  case hy1 => intro w' hSw; (try dsimp only at hSw); go_simp; try with_reducible rfl
  try simp only [Act.put, List.setIfInBounds_toArray, List.set_cons_zero, List.set_cons_succ]
  refine wpAnyH_take (i := 1) (v := ?v2) (ops_at rfl) (by kernel_rfl) (by kernel_rfl) (by kernel_rfl) (fun _ _ _ h => h) (Or.inl ⟨by rfl, ?hy2⟩) (by assumption) ?rest2
  case hy2 => intro w' hSw; (try dsimp only at hSw); go_simp; try with_reducible rfl
  try simp only [Act.put, List.setIfInBounds_toArray, List.set_cons_zero, List.set_cons_succ]
  refine wpAnyH_take (i := 2) (v := ?v3) (ops_at rfl) (by kernel_rfl) (by kernel_rfl) (by kernel_rfl) (fun _ _ _ h => h) (Or.inl ⟨by rfl, ?hy3⟩) (by assumption) ?rest3
  case hy3 => intro w' hSw; (try dsimp only at hSw); go_simp; try with_reducible rfl
  try simp only [Act.put, List.setIfInBounds_toArray, List.set_cons_zero, List.set_cons_succ]
  refine wpAnyH_take (i := 3) (v := ?v4) (ops_at rfl) (by kernel_rfl) (by kernel_rfl) (by kernel_rfl) (fun _ _ _ h => h) (Or.inl ⟨by rfl, ?hy4⟩) (by assumption) ?rest4
  case hy4 => intro w' hSw; (try dsimp only at hSw); go_simp; try with_reducible rfl
  try simp only [Act.put, List.setIfInBounds_toArray, List.set_cons_zero, List.set_cons_succ]
  refine wpAnyH_take (i := 4) (v := ?v5) (ops_at rfl) (by kernel_rfl) (by kernel_rfl) (by kernel_rfl) (fun _ _ _ h => h) (Or.inl ⟨by rfl, ?hy5⟩) (by assumption) ?rest5
  case hy5 => intro w' hSw; (try dsimp only at hSw); go_simp; try with_reducible rfl
  try simp only [Act.put, List.setIfInBounds_toArray, List.set_cons_zero, List.set_cons_succ]
  refine wpAnyH_take (i := 5) (v := ?v6) (ops_at rfl) (by kernel_rfl) (by kernel_rfl) (by kernel_rfl) (fun _ _ _ h => h) (Or.inl ⟨by rfl, ?hy6⟩) (by assumption) ?rest6
  case hy6 => intro w' hSw; (try dsimp only at hSw); go_simp; try with_reducible rfl
  try simp only [Act.put, List.setIfInBounds_toArray, List.set_cons_zero, List.set_cons_succ]
  refine wpAnyH_take (i := 6) (v := ?v7) (ops_at rfl) (by kernel_rfl) (by kernel_rfl) (by kernel_rfl) (fun _ _ _ h => h) (Or.inl ⟨by rfl, ?hy7⟩) (by assumption) ?rest7
  case hy7 => intro w' hSw; (try dsimp only at hSw); go_simp; try with_reducible rfl
  try simp only [Act.put, List.setIfInBounds_toArray, List.set_cons_zero, List.set_cons_succ]
  refine wpAnyH_take (i := 7) (v := ?v8) (ops_at rfl) (by kernel_rfl) (by kernel_rfl) (by kernel_rfl) (fun _ _ _ h => h) (Or.inl ⟨by rfl, ?hy8⟩) (by assumption) ?rest8
  case hy8 => intro w' hSw; (try dsimp only at hSw); go_simp; try with_reducible rfl
  try simp only [Act.put, List.setIfInBounds_toArray, List.set_cons_zero, List.set_cons_succ]
  refine wpAnyH_take (i := 8) (v := ?v9) (ops_at rfl) (by kernel_rfl) (by kernel_rfl) (by kernel_rfl) (fun _ _ _ h => h) (Or.inl ⟨by rfl, ?hy9⟩) (by assumption) ?rest9
  case hy9 => intro w' hSw; (try dsimp only at hSw); go_simp; try with_reducible rfl
  try simp only [Act.put, List.setIfInBounds_toArray, List.set_cons_zero, List.set_cons_succ]
  refine wpAnyH_take (i := 9) (v := ?v10) (ops_at rfl) (by kernel_rfl) (by kernel_rfl) (by kernel_rfl) (fun _ _ _ h => h) (Or.inl ⟨by rfl, ?hy10⟩) (by assumption) ?rest10
  case hy10 => intro w' hSw; (try dsimp only at hSw); go_simp; try with_reducible rfl
  try simp only [Act.put, List.setIfInBounds_toArray, List.set_cons_zero, List.set_cons_succ]
  refine wpAnyH_done (by kernel_rfl) ?_ _
  go_wp2_with fail
  go_loopw [29] (fun i wr => ∃ j : Nat, j ≤ 2 ∧ i = .int .i64 j ∧ (1 ≤ j → x.e1 ≠ ep) ∧ (2 ≤ j → x.e2 ≠ ep) ∧ Below w.heap.size w wr) (fun i _ => 2 - (intOf i).toNat)
  case atStart => exact ⟨0, by omega, rfl, fun h => absurd h (by omega), fun h => absurd h (by omega), ((St.start w).drew).fin⟩
  case round =>
    obtain ⟨j, hj, rfl, n1, n2, hb⟩ := hrel
    have SB : St w wr [] := ⟨hb, ((St.start w).grow hb).has⟩
    clear hb x0 x1 x2 x3
    have q0' : ∀ wx, (Instr.index 124 (.agg #[.int .i64 x.e1, .slice x.d1.a x.d1.n x.d1.c, .int .i64 x.e2, .slice x.d2.a x.d2.n x.d2.c]) (.int .i64 ((0 : Nat) : Int))).run Try.prog wx = .ok (.agg #[.int .i64 x.e1, .slice x.d1.a x.d1.n x.d1.c]) wx := q0
    have q1' : ∀ wx, (Instr.index 124 (.agg #[.int .i64 x.e1, .slice x.d1.a x.d1.n x.d1.c, .int .i64 x.e2, .slice x.d2.a x.d2.n x.d2.c]) (.int .i64 ((1 : Nat) : Int))).run Try.prog wx = .ok (.agg #[.int .i64 x.e2, .slice x.d2.a x.d2.n x.d2.c]) wx := q1
    rcases (show j = 0 ∨ j = 1 ∨ j = 2 by omega) with rfl | rfl | rfl
    · by_cases hm : x.e1 = ep
      · have e1 : (x.e1 == ep) = true := by simpa using hm
        have HM := hid hm
        clear hm
        have hres : Hid (sGet s N ep = some x.d1.l) := by rw [Hid, e2.out, if_pos HM.out]
        have hcl := hL1.hd
        have hat := hL1.at_.all (SB.alloc (.cells #[.int .i64 x.e1, .slice x.d1.a x.d1.n x.d1.c] 87)).fin
        go_wp2_with fail
        refine (clone_any x.d1.a x.d1.l x.d1.n x.d1.c _ hcl.len (by omega) hcl.nil (by exact hat)).mono ?_
        rintro e w5 ⟨v, rfl, ho, hb5⟩
        obtain ⟨a5, c5, rfl⟩ := ho.written rfl
        have hf := bst (SB.alloc (.cells #[.int .i64 x.e1, .slice x.d1.a x.d1.n x.d1.c] 87)).fin hb5
        have hbase := (SB.alloc (.cells #[.int .i64 x.e1, .slice x.d1.a x.d1.n x.d1.c] 87)).size
        have HO := hid ho
        clear ho hb5
        go_wp2
        go_ret2
        rw [hres.out]
        exact ⟨a5, c5, rfl, HO.out.base hbase, hf⟩
      · have e1 : (x.e1 == ep) = false := by simpa using hm
        have HM := hid hm
        clear hm
        go_wp2
        go_roundw
        case rel => exact ⟨1, by omega, rfl, fun _ => HM.out, fun h => absurd h (by omega), (SB.alloc _).fin⟩
        case measure => simp [intOf]
    · by_cases hm : x.e2 = ep
      · have e1 : (x.e2 == ep) = true := by simpa using hm
        have HM := hid hm
        clear hm
        have hres : Hid (sGet s N ep = some x.d2.l) := by rw [Hid, e2.out, if_neg (n1 (by omega)), if_pos HM.out]
        have hcl := hL2.hd
        have hat := hL2.at_.all (SB.alloc (.cells #[.int .i64 x.e2, .slice x.d2.a x.d2.n x.d2.c] 87)).fin
        go_wp2_with fail
        refine (clone_any x.d2.a x.d2.l x.d2.n x.d2.c _ hcl.len (by omega) hcl.nil (by exact hat)).mono ?_
        rintro e w5 ⟨v, rfl, ho, hb5⟩
        obtain ⟨a5, c5, rfl⟩ := ho.written rfl
        have hf := bst (SB.alloc (.cells #[.int .i64 x.e2, .slice x.d2.a x.d2.n x.d2.c] 87)).fin hb5
        have hbase := (SB.alloc (.cells #[.int .i64 x.e2, .slice x.d2.a x.d2.n x.d2.c] 87)).size
        have HO := hid ho
        clear ho hb5
        go_wp2
        go_ret2
        rw [hres.out]
        exact ⟨a5, c5, rfl, HO.out.base hbase, hf⟩
      · have e1 : (x.e2 == ep) = false := by simpa using hm
        have HM := hid hm
        clear hm
        go_wp2
        go_roundw
        case rel => exact ⟨2, by omega, rfl, fun _ => n1 (by omega), fun _ => HM.out, (SB.alloc _).fin⟩
        case measure => simp [intOf]
    · have hres : Hid (sGet s N ep = none) := by rw [Hid, e2.out, if_neg (n1 (by omega)), if_neg (n2 (by omega))]
      go_wp2
      go_ret2
      rw [hres.out]
      exact ⟨none, 0, rfl, Own.nil _ _, SB.fin⟩
set_option maxRecDepth 10000 in
set_option maxHeartbeats 1600000 in
theorem stCommit_any (S : St w0 w r) (k : Nat) (hk : r[k]? = some (storeT g s)) (n ep : Int) :
    Calls Try.prog 25 #[.pointer (some ⟨g, 0, none⟩), .int .i64 n, .int .i64 ep] w fun e w' => e = .returned (.int .i64 (sCommit s n ep).1) ∧ St w0 w' (r.set k (storeT g (sCommit s n ep).2)) := by
  obtain ⟨F, l, I, hu⟩ := S.storeUpd k hk
  have hS : St w0 w (r.set k (storeT g s)) := by rw [set_same hk]; exact S
  by_cases h : jobOk n
  case neg =>
    have e : Hid (jobV g n = .pointer none) := by rw [Hid, jobV, if_neg h]
    have e2 : Hid (sCommit s n ep = (4, s)) := by rw [Hid, sCommit, if_pos (.inl h)]
    rw [e2.out]
    clear h I hu
    go_enter Try.func25, Try.ntmps25
    go_wp2_with fail
    refine (stJob_any g n _).mono ?_
    rintro e' w1 ⟨rfl, rfl⟩
    rw [e.out]
    go_wp2
    go_ret
    exact ⟨rfl, hS⟩
  obtain ⟨N, rfl, h1, h2⟩ := jobOk_nat h
  obtain ⟨hkl, hj⟩ := I.job h2
  obtain ⟨c, hc⟩ : ∃ c, 2 + N * 4 = c := ⟨_, rfl⟩
  obtain ⟨x0, x1, x2, x3⟩ := I.sh hkl c hc
  have e : Hid (jobV g N = .pointer (some ⟨g, c, none⟩)) := by rw [Hid, jobV, if_pos h, ← hc]; rfl
  have hE : sCommit s N ep = if ep < 1 ∨ ep ≠ l[N].e1 ∧ ep ≠ l[N].e2 then (4, s) else if ep = l[N].e2 then (0, s.put N ⟨l[N].e2, l[N].d2.l, 0, []⟩) else (0, s) := by
    unfold sCommit
    rw [hj]
    simp only [h, not_true_eq_false, false_or]
    rfl
  by_cases hep : ep < 1
  · have e2 : Hid (sCommit s N ep = (4, s)) := by rw [Hid, hE, if_pos (.inl hep)]
    rw [e2.out]
    have g1 : decide (ep < 1) = true := decide_eq_true hep
    clear h I hu hep hE hj
    go_enter Try.func25, Try.ntmps25
    go_wp2_with fail
    refine (stJob_any g N _).mono ?_
    rintro e' w1 ⟨rfl, rfl⟩
    rw [e.out]
    go_wp2
    go_ret
    exact ⟨rfl, hS⟩
  have g1 : decide (ep < 1) = false := decide_eq_false hep
  have f0 := I.frozen c
  have f1 := I.frozen (c + 1)
  have f2 := I.frozen (c + 2)
  have f3 := I.frozen (c + 3)
  have I4 := I.set4 hkl c hc ⟨l[N].e2, l[N].d2, 0, ⟨none, 0, 0, []⟩⟩ ⟨(I.data _ (List.getElem_mem hkl)).2, BS.Lie.zero _ _ _⟩ ⟨(I.small _ (List.getElem_mem hkl)).2, by simp⟩
  have S4 := hid (hu _ _ _ I4.1 I4.2)
  rw [show Sh.ps ⟨l[N].e2, l[N].d2, 0, ⟨none, 0, 0, []⟩⟩ = ⟨l[N].e2, l[N].d2.l, 0, []⟩ from rfl] at S4
  obtain ⟨x, hx⟩ : ∃ x, l[N] = x := ⟨_, rfl⟩
  rw [hx] at x0 x1 x2 x3 hE S4
  clear h I hu hj hx I4 hc
  by_cases hs2 : ep = x.e2
  · have e2 : Hid (sCommit s N ep = (0, s.put N ⟨x.e2, x.d2.l, 0, []⟩)) := by rw [Hid, hE, if_neg (by rintro (q | q); exact hep q; exact q.2 hs2), if_pos hs2]
    rw [e2.out]
    have k1 : (ep != x.e2) = false := by simpa using hs2
    have k2 : (ep == x.e2) = true := by simpa using hs2
    clear hs2 hE hep
    go_enter Try.func25, Try.ntmps25
    go_wp2_with fail
    refine (stJob_any g N _).mono ?_
    rintro e' w1 ⟨rfl, rfl⟩
    rw [e.out]
    cases hb : ep != x.e1
    all_goals (
      go_wp2
      go_ret
      exact ⟨rfl, S4.out⟩)
  have k1 : (ep != x.e2) = true := by simpa using hs2
  have k2 : (ep == x.e2) = false := by simpa using hs2
  by_cases hs1 : ep = x.e1
  · have e2 : Hid (sCommit s N ep = (0, s)) := by rw [Hid, hE, if_neg (by rintro (q | q); exact hep q; exact q.1 hs1), if_neg hs2]
    rw [e2.out]
    have k3 : (ep != x.e1) = false := by simpa using hs1
    clear hs1 hs2 hE hep
    go_enter Try.func25, Try.ntmps25
    go_wp2_with fail
    refine (stJob_any g N _).mono ?_
    rintro e' w1 ⟨rfl, rfl⟩
    rw [e.out]
    go_wp2
    go_ret
    exact ⟨rfl, hS⟩
  · have e2 : Hid (sCommit s N ep = (4, s)) := by rw [Hid, hE, if_pos (.inr ⟨hs1, hs2⟩)]
    rw [e2.out]
    have k3 : (ep != x.e1) = true := by simpa using hs1
    clear hs1 hs2 hE hep
    go_enter Try.func25, Try.ntmps25
    go_wp2_with fail
    refine (stJob_any g N _).mono ?_
    rintro e' w1 ⟨rfl, rfl⟩
    rw [e.out]
    go_wp2
    go_ret
    exact ⟨rfl, hS⟩
end

end Go.Proofs.Ytilobmefomoemaa

namespace Go.Proofs.Ytilobmefomoemaa
set_option linter.unusedVariables false
set_option linter.unusedSimpArgs false
open Go.RowKit
section
variable {w0 w : World} {r : List Thing} {g : Nat} {s : SS}
theorem addCell_any {w : World} {g k : Nat} {x : Nat} (h : w.cell? ⟨g, k, none⟩ = some (.int .i64 x)) (hf : w.frozen? ⟨g, k, none⟩ = false) (hx : x < 9223372036854775807) :
    Calls Try.prog 52 #[.pointer (some ⟨g, k, none⟩), .int .i64 1] w fun e w' => e = .returned (.int .i64 ((x + 1 : Nat) : Int)) ∧ w' = w.setCell ⟨g, k, none⟩ (.int .i64 ((x + 1 : Nat) : Int)) := by
  have hl := run_call_add (P := Try.prog) Try.func68 (by kernel_rfl) (by kernel_rfl) (by kernel_rfl) .i64 (by kernel_rfl) (y := 1) (s := ((x + 1 : Nat) : Int)) h hf (by
    have : IntKind.i64.wrap ((x : Int) + 1) = ((x + 1 : Nat) : Int) := by rw [IntKind.wrap_i64]; omega
    simp [go_sem, this])
  go_enter Try.func52, Try.ntmps52
  go_wp2
  go_ret
  exact ⟨rfl, rfl⟩
theorem stC_setW (s : SS) (l : List Sh) (h : l.length = 25) (n : Nat) : (stC s l).set 102 (.int .i64 (n : Int)) = stC { s with writes := n } l := by
  unfold stC
  rw [show (102 : Nat) = 100 + 1 + 1 from rfl, List.set_cons_succ, List.set_cons_succ, List.set_append_right _ _ (by rw [shC_len]; omega), shC_len, h]
  rfl
theorem below_cell {B : Nat} {w w' : World} (h : Below B w w') {g : Nat} (hg : g < B) (i : Nat) : w'.cell? ⟨g, i, none⟩ = w.cell? ⟨g, i, none⟩ := by
  simp only [World.cell?, h.block g hg]
theorem IsStore.stay {w w' : World} {B : Nat} {F : Nat → Prop} {g : Nat} {s : SS} {l : List Sh} (h : IsStore w B F g s l) (hb : Below w.heap.size w w') : IsStore w' B F g s l :=
  have ht : Touch (fun _ => False) w w' := Touch.ofBelow hb
  ⟨h.base, by rw [ht.block g (Array.getElem?_eq_some_iff.1 h.row).1 (fun h => h)]; exact h.row, h.foot, h.len, h.ps, fun x hx => ⟨(h.data x hx).1.touch ht (fun b _ _ h => h), (h.data x hx).2.touch ht (fun b _ _ h => h)⟩, h.small, fun b hb => ⟨(h.low b hb).1, Nat.lt_of_lt_of_le (h.low b hb).2 ht.size⟩⟩
theorem BS.Lie.mono {w : World} {F F' : Nat → Prop} {g : Nat} {x : BS} (h : x.Lie w F g) (hF : ∀ b, F b → F' b) : x.Lie w F' g := ⟨h.hd, h.at_, fun y hy => ⟨hF _ (h.own y hy).1, (h.own y hy).2⟩⟩
theorem IsStore.mono {w : World} {B : Nat} {F F' : Nat → Prop} {g : Nat} {s : SS} {l : List Sh} (h : IsStore w B F g s l) (hF : ∀ b, F b → F' b) (hl : ∀ b, F' b → B ≤ b ∧ b < w.heap.size) : IsStore w B F' g s l :=
  ⟨h.base, h.row, hF _ h.foot, h.len, h.ps, fun x hx => ⟨(h.data x hx).1.mono hF, (h.data x hx).2.mono hF⟩, h.small, hl⟩
set_option maxRecDepth 10000 in
set_option maxHeartbeats 3200000 in
theorem stStage_any (S : St w0 w r) (k : Nat) (hk : r[k]? = some (storeT g s)) (hw : s.writes ≤ 1000000) (term jb ep : Int) (a : Option Addr) (b : List UInt8) (n cap : Nat) (hn : b.length = n) (hm : n ≤ 140737488355328) (hnil : a = none → cap = 0) (hA : At w a b) :
    Calls Try.prog 27 #[.pointer (some ⟨g, 0, none⟩), .int .i64 term, .int .i64 jb, .int .i64 ep, .slice a n cap] w fun e w' => e = .returned (.int .i64 (sStage s term jb ep b).1) ∧ St w0 w' (r.set k (storeT g (sStage s term jb ep b).2)) := by
  have HN := hid hn
  have HNil := hid hnil
  obtain ⟨F, ⟨l, I⟩, hu⟩ := S.step k hk
  have hS : St w0 w (r.set k (storeT g s)) := by rw [set_same hk]; exact S
  have hgl : g < w.drew.heap.size := (I.low g I.foot).2
  have ct : w.cell? ⟨g, 1, none⟩ = some (.int .i64 s.term) := I.cell 1
  have cr : w.cell? ⟨g, 0, none⟩ = some (.int .i64 s.room) := I.cell 0
  by_cases ht : term < s.term
  · have e2 : Hid (sStage s term jb ep b = (6, s)) := by rw [Hid, sStage, if_pos ht]
    rw [e2.out]
    have g0 : decide (term < s.term) = true := decide_eq_true ht
    obtain ⟨v, hv, hvp⟩ : ∃ v, jobV g jb = .pointer v ∧ True := by unfold jobV; split <;> exact ⟨_, rfl, trivial⟩
    have e : Hid (jobV g jb = .pointer v) := hv
    clear hn hnil I hu ht hv hvp
    go_enter Try.func27, Try.ntmps27
    go_wp2_with fail
    refine (stJob_any g jb _).mono ?_
    rintro e' w1 ⟨rfl, rfl⟩
    rw [e.out]
    go_wp2
    go_ret
    exact ⟨rfl, hS⟩
  have g0 : decide (term < s.term) = false := decide_eq_false ht
  by_cases h : jobOk jb
  case neg =>
    have e : Hid (jobV g jb = .pointer none) := by rw [Hid, jobV, if_neg h]
    have e2 : Hid (sStage s term jb ep b = (1, s)) := by rw [Hid, sStage, if_neg ht, if_pos (.inl h)]
    rw [e2.out]
    clear hn hnil I hu ht h
    go_enter Try.func27, Try.ntmps27
    go_wp2_with fail
    refine (stJob_any g jb _).mono ?_
    rintro e' w1 ⟨rfl, rfl⟩
    rw [e.out]
    go_wp2
    go_ret
    exact ⟨rfl, hS⟩
  obtain ⟨N, rfl, h1, h2⟩ := jobOk_nat h
  obtain ⟨hkl, hj⟩ := I.job h2
  obtain ⟨c, hc⟩ : ∃ c, 2 + N * 4 = c := ⟨_, rfl⟩
  obtain ⟨x0, x1, x2, x3⟩ := I.sh hkl c hc
  have e : Hid (jobV g N = .pointer (some ⟨g, c, none⟩)) := by rw [Hid, jobV, if_pos h, ← hc]; rfl
  have hE : sStage s term N ep b = if ep < 1 ∨ 1000000 < ep ∨ n = 0 ∨ 100 < n then (1, s) else if ep ≤ l[N].e1 ∨ ep < l[N].e2 then (6, s) else if ep = l[N].e2 then (0, s) else
      if s.room < (usedP s.js : Int) - l[N].d2.n + n then (3, s) else (0, { s.put N ⟨l[N].e1, l[N].d1.l, ep, b⟩ with writes := s.writes + 1 }) := by
    unfold sStage
    rw [if_neg ht, hj, hn]
    simp only [h, not_true_eq_false, false_or]
    have : (l[N].ps.sd.length : Int) = (l[N].d2.n : Int) := by rw [show l[N].ps.sd = l[N].d2.l from rfl, (I.data _ (List.getElem_mem hkl)).2.hd.len]
    rw [this]
    rfl
  by_cases q : ep < 1
  · have e2 : Hid (sStage s term N ep b = (1, s)) := by rw [Hid, hE, if_pos (.inl q)]
    rw [e2.out]
    have g1 : decide (ep < 1) = true := decide_eq_true (by omega)
    clear hn hnil I hu ht h hE hj q hc
    go_enter Try.func27, Try.ntmps27
    go_wp2_with fail
    refine (stJob_any g N _).mono ?_
    rintro e' w1 ⟨rfl, rfl⟩
    rw [e.out]
    go_wp2
    go_ret
    exact ⟨rfl, hS⟩
  have g1 : decide (ep < 1) = false := decide_eq_false (by omega)
  have q0 := q
  clear q
  by_cases q : 1000000 < ep
  · have e2 : Hid (sStage s term N ep b = (1, s)) := by rw [Hid, hE, if_pos (.inr (.inl q))]
    rw [e2.out]
    have g2 : decide (1000000 < ep) = true := decide_eq_true (by omega)
    clear hn hnil I hu ht h hE hj q hc
    go_enter Try.func27, Try.ntmps27
    go_wp2_with fail
    refine (stJob_any g N _).mono ?_
    rintro e' w1 ⟨rfl, rfl⟩
    rw [e.out]
    go_wp2
    go_ret
    exact ⟨rfl, hS⟩
  have g2 : decide (1000000 < ep) = false := decide_eq_false (by omega)
  have q1 := q
  clear q
  by_cases q : n = 0
  · have e2 : Hid (sStage s term N ep b = (1, s)) := by rw [Hid, hE, if_pos (.inr (.inr (.inl q)))]
    rw [e2.out]
    have g3 : ((n : Int) == 0) = true := by simp; omega
    clear hn hnil I hu ht h hE hj q hc
    go_enter Try.func27, Try.ntmps27
    go_wp2_with fail
    refine (stJob_any g N _).mono ?_
    rintro e' w1 ⟨rfl, rfl⟩
    rw [e.out]
    go_wp2
    go_ret
    exact ⟨rfl, hS⟩
  have g3 : ((n : Int) == 0) = false := by simp; omega
  have q2 := q
  clear q
  by_cases q : 100 < n
  · have e2 : Hid (sStage s term N ep b = (1, s)) := by rw [Hid, hE, if_pos (.inr (.inr (.inr q)))]
    rw [e2.out]
    have g4 : decide ((100 : Int) < (n : Int)) = true := decide_eq_true (by omega)
    clear hn hnil I hu ht h hE hj q hc
    go_enter Try.func27, Try.ntmps27
    go_wp2_with fail
    refine (stJob_any g N _).mono ?_
    rintro e' w1 ⟨rfl, rfl⟩
    rw [e.out]
    go_wp2
    go_ret
    exact ⟨rfl, hS⟩
  have g4 : decide ((100 : Int) < (n : Int)) = false := decide_eq_false (by omega)
  have q3 := q
  clear q
  rw [if_neg (by rintro (q | q | q | q); exact q0 q; exact q1 q; exact q2 q; exact q3 q)] at hE
  have hlast := I.len
  have f2 := I.frozen (c + 2)
  have f3 := I.frozen (c + 3)
  have hsm := I.small _ (List.getElem_mem hkl)
  have hus : usedP s.js ≤ 5000 := by
    have h1 := usedS_le I.small 25 (by rw [I.len]; omega)
    have h2 : usedS l 25 = usedP s.js := by
      rw [← I.ps]; unfold usedS usedP
      rw [List.take_of_length_le (by have := I.len; omega), List.map_map]
      congr 1
      refine List.map_congr_left fun x hx => ?_
      have h1 := (I.data x hx).1.hd.len
      have h2 := (I.data x hx).2.hd.len
      show x.d1.n + x.d2.n = x.d1.l.length + x.d2.l.length
      omega
    omega
  obtain ⟨x, hx⟩ : ∃ x, l[N] = x := ⟨_, rfl⟩
  rw [hx] at x0 x1 x2 x3 hE hsm
  have HX := hid hx
  clear hx
  by_cases q4 : ep ≤ x.e1
  · have e2 : Hid (sStage s term N ep b = (6, s)) := by rw [Hid, hE, if_pos (.inl q4)]
    rw [e2.out]
    have g5 : decide (ep ≤ x.e1) = true := decide_eq_true q4
    clear hn hnil I hu ht h hE hj q4 hc hus hsm
    go_enter Try.func27, Try.ntmps27
    go_wp2_with fail
    refine (stJob_any g N _).mono ?_
    rintro e' w1 ⟨rfl, rfl⟩
    rw [e.out]
    go_wp2
    go_ret
    exact ⟨rfl, hS⟩
  have g5 : decide (ep ≤ x.e1) = false := decide_eq_false q4
  by_cases q5 : ep < x.e2
  · have e2 : Hid (sStage s term N ep b = (6, s)) := by rw [Hid, hE, if_pos (.inr q5)]
    rw [e2.out]
    have g6 : decide (ep < x.e2) = true := decide_eq_true q5
    clear hn hnil I hu ht h hE hj q4 q5 hc hus hsm
    go_enter Try.func27, Try.ntmps27
    go_wp2_with fail
    refine (stJob_any g N _).mono ?_
    rintro e' w1 ⟨rfl, rfl⟩
    rw [e.out]
    go_wp2
    go_ret
    exact ⟨rfl, hS⟩
  have g6 : decide (ep < x.e2) = false := decide_eq_false q5
  rw [if_neg (by rintro (q | q); exact q4 q; exact q5 q)] at hE
  by_cases q6 : ep = x.e2
  · have e2 : Hid (sStage s term N ep b = (0, s)) := by rw [Hid, hE, if_pos q6]
    rw [e2.out]
    have g7 : (ep == x.e2) = true := by simpa using q6
    clear hn hnil I hu ht h hE hj q4 q5 q6 hc hus hsm
    go_enter Try.func27, Try.ntmps27
    go_wp2_with fail
    refine (stJob_any g N _).mono ?_
    rintro e' w1 ⟨rfl, rfl⟩
    rw [e.out]
    go_wp2
    go_ret
    exact ⟨rfl, hS⟩
  have g7 : (ep == x.e2) = false := by simpa using q6
  rw [if_neg q6] at hE
  obtain ⟨U, hU⟩ : ∃ U, usedP s.js = U := ⟨_, rfl⟩
  rw [hU] at hE hus
  have HU := hid hU
  clear hU q4 q5 q6
  have wr1 : IntKind.i64.wrap ((U : Int) - (x.d2.n : Int)) = (U : Int) - (x.d2.n : Int) := by rw [IntKind.wrap_i64]; omega
  have wr2 : IntKind.i64.wrap ((U : Int) - (x.d2.n : Int) + (n : Int)) = (U : Int) - (x.d2.n : Int) + (n : Int) := by rw [IntKind.wrap_i64]; omega
  by_cases q7 : s.room < (U : Int) - x.d2.n + n
  · have e2 : Hid (sStage s term N ep b = (3, s)) := by rw [Hid, hE, if_pos q7]
    rw [e2.out]
    have g8 : decide (s.room < (U : Int) - (x.d2.n : Int) + (n : Int)) = true := decide_eq_true q7
    clear hn hnil I hu ht h hE hj hc q7
    go_enter Try.func27, Try.ntmps27
    go_wp2_with fail
    refine (stJob_any g N _).mono ?_
    rintro e' w1 ⟨rfl, rfl⟩
    rw [e.out]
    go_wp2_with fail
    refine wp_region_held_drew (S := (fun w' => w'.cell? ⟨g, c + 3, none⟩ = some (.slice x.d2.a x.d2.n x.d2.c) ∧ w'.cell? ⟨g, 0, none⟩ = some (.int .i64 s.room))) (by kernel_rfl) (by exact ⟨x3, cr⟩) (fun hHeld => ?_)
    change wpAnyH _ _ _ _ _ 18 (Array.replicate 18 false) _ _
    refine wpAnyH_take (i := 0) (v := ?v11) (ops_at rfl) (by kernel_rfl) (by kernel_rfl) (by kernel_rfl) (fun _ _ _ h => h) (Or.inl ⟨by rfl, ?hy11⟩) (by assumption) ?rest11
    case hy11 => intro w' hSw; (try dsimp only at hSw); go_simp; try with_reducible rfl
    try simp only [Act.put, List.setIfInBounds_toArray, List.set_cons_zero, List.set_cons_succ]
    refine wpAnyH_take (i := 2) (v := ?v12) (ops_at rfl) (by kernel_rfl) (by kernel_rfl) (by kernel_rfl) (fun _ _ _ h => h) (Or.inl ⟨by rfl, ?hy12⟩) (by assumption) ?rest12
    case hy12 => intro w' hSw; (try dsimp only at hSw); go_simp; try with_reducible rfl
    try simp only [Act.put, List.setIfInBounds_toArray, List.set_cons_zero, List.set_cons_succ]
    refine wpAnyH_take (i := 3) (v := ?v13) (ops_at rfl) (by kernel_rfl) (by kernel_rfl) (by kernel_rfl) (fun _ _ _ h => h) (Or.inl ⟨by rfl, ?hy13⟩) (by assumption) ?rest13
    case hy13 => intro w' hSw; (try dsimp only at hSw); go_simp; try with_reducible rfl
    try simp only [Act.put, List.setIfInBounds_toArray, List.set_cons_zero, List.set_cons_succ]
    refine wpAnyH_take (i := 4) (v := ?v14) (ops_at rfl) (by kernel_rfl) (by kernel_rfl) (by kernel_rfl) (fun _ _ _ h => h) (Or.inl ⟨by rfl, ?hy14⟩) (by assumption) ?rest14
    case hy14 => intro w' hSw; (try dsimp only at hSw); go_simp; try with_reducible rfl
    try simp only [Act.put, List.setIfInBounds_toArray, List.set_cons_zero, List.set_cons_succ]
    refine wpAnyH_take (i := 5) (v := ?v15) (ops_at rfl) (by kernel_rfl) (by kernel_rfl) (by kernel_rfl) (fun _ _ _ h => h) (Or.inl ⟨by rfl, ?hy15⟩) (by assumption) ?rest15
    case hy15 => intro w' hSw; (try dsimp only at hSw); go_simp; try with_reducible rfl
    try simp only [Act.put, List.setIfInBounds_toArray, List.set_cons_zero, List.set_cons_succ]
    refine wpAnyH_take (i := 6) (v := ?v16) (ops_at rfl) (by kernel_rfl) (by kernel_rfl) (by kernel_rfl) (fun _ _ _ h => h) (Or.inl ⟨by rfl, ?hy16⟩) (by assumption) ?rest16
    case hy16 => intro w' hSw; (try dsimp only at hSw); go_simp; try with_reducible rfl
    try simp only [Act.put, List.setIfInBounds_toArray, List.set_cons_zero, List.set_cons_succ]
    refine wpAnyH_take (i := 7) (v := ?v17) (ops_at rfl) (by kernel_rfl) (by kernel_rfl) (by kernel_rfl) (fun _ _ _ h => h) (Or.inl ⟨by rfl, ?hy17⟩) (by assumption) ?rest17
    case hy17 => intro w' hSw; (try dsimp only at hSw); go_simp; try with_reducible rfl
    try simp only [Act.put, List.setIfInBounds_toArray, List.set_cons_zero, List.set_cons_succ]
    refine wpAnyH_take (i := 9) (v := ?v18) (ops_at rfl) (by kernel_rfl) (by kernel_rfl) (by kernel_rfl) (fun _ _ _ h => h) (Or.inl ⟨by rfl, ?hy18⟩) (by assumption) ?rest18
    case hy18 => intro w' hSw; (try dsimp only at hSw); go_simp; try with_reducible rfl
    try simp only [Act.put, List.setIfInBounds_toArray, List.set_cons_zero, List.set_cons_succ]
    refine wpAnyH_take (i := 10) (v := ?v19) (ops_at rfl) (by kernel_rfl) (by kernel_rfl) (by kernel_rfl) (fun _ _ _ h => h) (Or.inl ⟨by rfl, ?hy19⟩) (by assumption) ?rest19
    case hy19 => intro w' hSw; (try dsimp only at hSw); go_simp; try with_reducible rfl
    try simp only [Act.put, List.setIfInBounds_toArray, List.set_cons_zero, List.set_cons_succ]
    refine wpAnyH_take (i := 12) (v := ?v20) (ops_at rfl) (by kernel_rfl) (by kernel_rfl) (by kernel_rfl) (fun _ _ _ h => h) (Or.inl ⟨by rfl, ?hy20⟩) (by assumption) ?rest20
    case hy20 => intro w' hSw; (try dsimp only at hSw); go_simp; try with_reducible rfl
    try simp only [Act.put, List.setIfInBounds_toArray, List.set_cons_zero, List.set_cons_succ]
    refine wpAnyH_take (i := 13) (v := ?v21) (ops_at rfl) (by kernel_rfl) (by kernel_rfl) (by kernel_rfl) (fun _ _ _ h => h) (Or.inl ⟨by rfl, ?hy21⟩) (by assumption) ?rest21
    case hy21 => intro w' hSw; (try dsimp only at hSw); go_simp; try with_reducible rfl
    try simp only [Act.put, List.setIfInBounds_toArray, List.set_cons_zero, List.set_cons_succ]
    refine wpAnyH_take (i := 14) (v := ?v22) (ops_at rfl) (by kernel_rfl) (by kernel_rfl) (by kernel_rfl) (fun _ _ _ h => h) (Or.inl ⟨by rfl, ?hy22⟩) (by assumption) ?rest22
    case hy22 => intro w' hSw; (try dsimp only at hSw); go_simp; try with_reducible rfl
    try simp only [Act.put, List.setIfInBounds_toArray, List.set_cons_zero, List.set_cons_succ]
    refine wpAnyH_take (i := 15) (v := ?v23) (ops_at rfl) (by kernel_rfl) (by kernel_rfl) (by kernel_rfl) (fun _ _ _ h => h) (Or.inl ⟨by rfl, ?hy23⟩) (by assumption) ?rest23
    case hy23 => intro w' hSw; (try dsimp only at hSw); go_simp; try with_reducible rfl
    try simp only [Act.put, List.setIfInBounds_toArray, List.set_cons_zero, List.set_cons_succ]
    refine wpAnyH_ready (rs := [1]) (by kernel_rfl) (by simp) ?_
    refine AllReadyH.cons (ops_at rfl) (fun K hK => ?_) AllReadyH.nil
    go_simp
    refine (stUsed_any S.drew k hk).mono ?_
    rintro e' w2 ⟨rfl, hb2⟩
    rw [HU.out]
    have S2 := hS.drew.grow hb2
    refine hK.out _ _ (by exact ⟨(below_cell hb2 hgl _).trans x3, (below_cell hb2 hgl _).trans cr⟩) (fun hHeld => ?_)
    clear hK K
    try simp only [Act.put, List.setIfInBounds_toArray, List.set_cons_zero, List.set_cons_succ]
    refine wpAnyH_take (i := 8) (v := ?v25) (ops_at rfl) (by kernel_rfl) (by kernel_rfl) (by kernel_rfl) (fun _ _ _ h => h) (Or.inl ⟨by rfl, ?hy25⟩) (by assumption) ?rest25
    case hy25 => intro w' hSw; (try dsimp only at hSw); go_simp; try with_reducible rfl
    try simp only [Act.put, List.setIfInBounds_toArray, List.set_cons_zero, List.set_cons_succ]
    refine wpAnyH_take (i := 11) (v := ?v26) (ops_at rfl) (by kernel_rfl) (by kernel_rfl) (by kernel_rfl) (fun _ _ _ h => h) (Or.inl ⟨by rfl, ?hy26⟩) (by assumption) ?rest26
    case hy26 => intro w' hSw; (try dsimp only at hSw); go_simp; try with_reducible rfl
    try simp only [Act.put, List.setIfInBounds_toArray, List.set_cons_zero, List.set_cons_succ]
    refine wpAnyH_take (i := 16) (v := ?v27) (ops_at rfl) (by kernel_rfl) (by kernel_rfl) (by kernel_rfl) (fun _ _ _ h => h) (Or.inl ⟨by rfl, ?hy27⟩) (by assumption) ?rest27
    case hy27 => intro w' hSw; (try dsimp only at hSw); go_simp; try with_reducible rfl
    try simp only [Act.put, List.setIfInBounds_toArray, List.set_cons_zero, List.set_cons_succ]
    refine wpAnyH_take (i := 17) (v := ?v28) (ops_at rfl) (by kernel_rfl) (by kernel_rfl) (by kernel_rfl) (fun _ _ _ h => h) (Or.inl ⟨by rfl, ?hy28⟩) (by assumption) ?rest28
    case hy28 => intro w' hSw; (try dsimp only at hSw); go_simp; try with_reducible rfl
    try simp only [Act.put, List.setIfInBounds_toArray, List.set_cons_zero, List.set_cons_succ]
    refine wpAnyH_done (by kernel_rfl) ?_ _
    go_wp2
    go_ret
    exact ⟨rfl, S2⟩
  have g8 : decide (s.room < (U : Int) - (x.d2.n : Int) + (n : Int)) = false := decide_eq_false q7
  rw [if_neg q7] at hE
  have e2 := hid hE
  rw [e2.out]
  have HI := hid I
  have HU2 := hid hu
  have HC := hid hc
  clear hn hnil I hu ht h hE hj hc q7
  go_enter Try.func27, Try.ntmps27
  go_wp2_with fail
  refine (stJob_any g N _).mono ?_
  rintro e' w1 ⟨rfl, rfl⟩
  rw [e.out]
  go_wp2_with fail
  refine wp_region_held_drew (S := (fun w' => w'.cell? ⟨g, c + 3, none⟩ = some (.slice x.d2.a x.d2.n x.d2.c) ∧ w'.cell? ⟨g, 0, none⟩ = some (.int .i64 s.room))) (by kernel_rfl) (by exact ⟨x3, cr⟩) (fun hHeld => ?_)
  change wpAnyH _ _ _ _ _ 18 (Array.replicate 18 false) _ _
  refine wpAnyH_take (i := 0) (v := ?v29) (ops_at rfl) (by kernel_rfl) (by kernel_rfl) (by kernel_rfl) (fun _ _ _ h => h) (Or.inl ⟨by rfl, ?hy29⟩) (by assumption) ?rest29
  case hy29 => intro w' hSw; (try dsimp only at hSw); go_simp; try with_reducible rfl
  try simp only [Act.put, List.setIfInBounds_toArray, List.set_cons_zero, List.set_cons_succ]
  refine wpAnyH_take (i := 2) (v := ?v30) (ops_at rfl) (by kernel_rfl) (by kernel_rfl) (by kernel_rfl) (fun _ _ _ h => h) (Or.inl ⟨by rfl, ?hy30⟩) (by assumption) ?rest30
  case hy30 => intro w' hSw; (try dsimp only at hSw); go_simp; try with_reducible rfl
  try simp only [Act.put, List.setIfInBounds_toArray, List.set_cons_zero, List.set_cons_succ]
  refine wpAnyH_take (i := 3) (v := ?v31) (ops_at rfl) (by kernel_rfl) (by kernel_rfl) (by kernel_rfl) (fun _ _ _ h => h) (Or.inl ⟨by rfl, ?hy31⟩) (by assumption) ?rest31
  case hy31 => intro w' hSw; (try dsimp only at hSw); go_simp; try with_reducible rfl
  try simp only [Act.put, List.setIfInBounds_toArray, List.set_cons_zero, List.set_cons_succ]
  refine wpAnyH_take (i := 4) (v := ?v32) (ops_at rfl) (by kernel_rfl) (by kernel_rfl) (by kernel_rfl) (fun _ _ _ h => h) (Or.inl ⟨by rfl, ?hy32⟩) (by assumption) ?rest32
  case hy32 => intro w' hSw; (try dsimp only at hSw); go_simp; try with_reducible rfl
  try simp only [Act.put, List.setIfInBounds_toArray, List.set_cons_zero, List.set_cons_succ]
  refine wpAnyH_take (i := 5) (v := ?v33) (ops_at rfl) (by kernel_rfl) (by kernel_rfl) (by kernel_rfl) (fun _ _ _ h => h) (Or.inl ⟨by rfl, ?hy33⟩) (by assumption) ?rest33
  case hy33 => intro w' hSw; (try dsimp only at hSw); go_simp; try with_reducible rfl
  try simp only [Act.put, List.setIfInBounds_toArray, List.set_cons_zero, List.set_cons_succ]
  refine wpAnyH_take (i := 6) (v := ?v34) (ops_at rfl) (by kernel_rfl) (by kernel_rfl) (by kernel_rfl) (fun _ _ _ h => h) (Or.inl ⟨by rfl, ?hy34⟩) (by assumption) ?rest34
  case hy34 => intro w' hSw; (try dsimp only at hSw); go_simp; try with_reducible rfl
  try simp only [Act.put, List.setIfInBounds_toArray, List.set_cons_zero, List.set_cons_succ]
  refine wpAnyH_take (i := 7) (v := ?v35) (ops_at rfl) (by kernel_rfl) (by kernel_rfl) (by kernel_rfl) (fun _ _ _ h => h) (Or.inl ⟨by rfl, ?hy35⟩) (by assumption) ?rest35
  case hy35 => intro w' hSw; (try dsimp only at hSw); go_simp; try with_reducible rfl
  try simp only [Act.put, List.setIfInBounds_toArray, List.set_cons_zero, List.set_cons_succ]
  refine wpAnyH_take (i := 9) (v := ?v36) (ops_at rfl) (by kernel_rfl) (by kernel_rfl) (by kernel_rfl) (fun _ _ _ h => h) (Or.inl ⟨by rfl, ?hy36⟩) (by assumption) ?rest36
  case hy36 => intro w' hSw; (try dsimp only at hSw); go_simp; try with_reducible rfl
  try simp only [Act.put, List.setIfInBounds_toArray, List.set_cons_zero, List.set_cons_succ]
  refine wpAnyH_take (i := 10) (v := ?v37) (ops_at rfl) (by kernel_rfl) (by kernel_rfl) (by kernel_rfl) (fun _ _ _ h => h) (Or.inl ⟨by rfl, ?hy37⟩) (by assumption) ?rest37
  case hy37 => intro w' hSw; (try dsimp only at hSw); go_simp; try with_reducible rfl
  try simp only [Act.put, List.setIfInBounds_toArray, List.set_cons_zero, List.set_cons_succ]
  refine wpAnyH_take (i := 12) (v := ?v38) (ops_at rfl) (by kernel_rfl) (by kernel_rfl) (by kernel_rfl) (fun _ _ _ h => h) (Or.inl ⟨by rfl, ?hy38⟩) (by assumption) ?rest38
  case hy38 => intro w' hSw; (try dsimp only at hSw); go_simp; try with_reducible rfl
  try simp only [Act.put, List.setIfInBounds_toArray, List.set_cons_zero, List.set_cons_succ]
  refine wpAnyH_take (i := 13) (v := ?v39) (ops_at rfl) (by kernel_rfl) (by kernel_rfl) (by kernel_rfl) (fun _ _ _ h => h) (Or.inl ⟨by rfl, ?hy39⟩) (by assumption) ?rest39
  case hy39 => intro w' hSw; (try dsimp only at hSw); go_simp; try with_reducible rfl
  try simp only [Act.put, List.setIfInBounds_toArray, List.set_cons_zero, List.set_cons_succ]
  refine wpAnyH_take (i := 14) (v := ?v40) (ops_at rfl) (by kernel_rfl) (by kernel_rfl) (by kernel_rfl) (fun _ _ _ h => h) (Or.inl ⟨by rfl, ?hy40⟩) (by assumption) ?rest40
  case hy40 => intro w' hSw; (try dsimp only at hSw); go_simp; try with_reducible rfl
  try simp only [Act.put, List.setIfInBounds_toArray, List.set_cons_zero, List.set_cons_succ]
  refine wpAnyH_take (i := 15) (v := ?v41) (ops_at rfl) (by kernel_rfl) (by kernel_rfl) (by kernel_rfl) (fun _ _ _ h => h) (Or.inl ⟨by rfl, ?hy41⟩) (by assumption) ?rest41
  case hy41 => intro w' hSw; (try dsimp only at hSw); go_simp; try with_reducible rfl
  try simp only [Act.put, List.setIfInBounds_toArray, List.set_cons_zero, List.set_cons_succ]
  refine wpAnyH_ready (rs := [1]) (by kernel_rfl) (by simp) ?_
  refine AllReadyH.cons (ops_at rfl) (fun K hK => ?_) AllReadyH.nil
  go_simp
  refine (stUsed_any S.drew k hk).mono ?_
  rintro e' w2 ⟨rfl, hb2⟩
  rw [HU.out]
  refine hK.out _ _ (by exact ⟨(below_cell hb2 hgl _).trans x3, (below_cell hb2 hgl _).trans cr⟩) (fun hHeld => ?_)
  clear hK K
  try simp only [Act.put, List.setIfInBounds_toArray, List.set_cons_zero, List.set_cons_succ]
  refine wpAnyH_take (i := 8) (v := ?v43) (ops_at rfl) (by kernel_rfl) (by kernel_rfl) (by kernel_rfl) (fun _ _ _ h => h) (Or.inl ⟨by rfl, ?hy43⟩) (by assumption) ?rest43
  case hy43 => intro w' hSw; (try dsimp only at hSw); go_simp; try with_reducible rfl
  try simp only [Act.put, List.setIfInBounds_toArray, List.set_cons_zero, List.set_cons_succ]
  refine wpAnyH_take (i := 11) (v := ?v44) (ops_at rfl) (by kernel_rfl) (by kernel_rfl) (by kernel_rfl) (fun _ _ _ h => h) (Or.inl ⟨by rfl, ?hy44⟩) (by assumption) ?rest44
  case hy44 => intro w' hSw; (try dsimp only at hSw); go_simp; try with_reducible rfl
  try simp only [Act.put, List.setIfInBounds_toArray, List.set_cons_zero, List.set_cons_succ]
  refine wpAnyH_take (i := 16) (v := ?v45) (ops_at rfl) (by kernel_rfl) (by kernel_rfl) (by kernel_rfl) (fun _ _ _ h => h) (Or.inl ⟨by rfl, ?hy45⟩) (by assumption) ?rest45
  case hy45 => intro w' hSw; (try dsimp only at hSw); go_simp; try with_reducible rfl
  try simp only [Act.put, List.setIfInBounds_toArray, List.set_cons_zero, List.set_cons_succ]
  refine wpAnyH_take (i := 17) (v := ?v46) (ops_at rfl) (by kernel_rfl) (by kernel_rfl) (by kernel_rfl) (fun _ _ _ h => h) (Or.inl ⟨by rfl, ?hy46⟩) (by assumption) ?rest46
  case hy46 => intro w' hSw; (try dsimp only at hSw); go_simp; try with_reducible rfl
  try simp only [Act.put, List.setIfInBounds_toArray, List.set_cons_zero, List.set_cons_succ]
  refine wpAnyH_done (by kernel_rfl) ?_ _
  have hb0 : Below w.heap.size w w2 := undrew hb2
  clear hb2 hHeld x0 x1 x2 x3 ct cr
  go_wp2_with fail
  refine (clone_any a b n cap w2 HN.out hm HNil.out (by exact hA.all hb0)).mono ?_
  rintro e' w3 ⟨v, rfl, ho, hb3⟩
  obtain ⟨a3, c3, rfl⟩ := ho.written HN.out
  have hb03 := bst hb0 hb3
  have I3 : IsStore w3 w0.heap.size (fun y => F y ∨ (Value.slice a3 n c3).ownBlock = some y) g s l :=
    (HI.out.stay hb03).mono (fun _ h => .inl h) (fun y hy => by
      rcases hy with hy | hy
      · exact ⟨(HI.out.low y hy).1, Nat.lt_of_lt_of_le (HI.out.low y hy).2 hb03.size⟩
      · have := own_lt ((ownB _ _ _ _).2 ho) y hy
        have h2 := S.size
        have h3 := hb0.size
        exact ⟨by omega, this.2⟩)
  have hLie : BS.Lie w3 (fun y => F y ∨ (Value.slice a3 n c3).ownBlock = some y) g ⟨a3, n, c3, b⟩ := by
    obtain ⟨a', c', e', q1, q2, q3, q4, q5⟩ := OwnG.at eBok ((ownB _ _ _ _).2 ho)
    cases e'
    refine ⟨Own.hd ho, (atB _ _ _).1 q4, fun y hy => ⟨.inr (q5 y hy), ?_⟩⟩
    have h1 := (own_lt ((ownB _ _ _ _).2 ho) y.block (q5 y hy)).1
    have h2 : g < w.heap.size := hgl
    have h3 := hb0.size
    omega
  obtain ⟨I5, ht5⟩ := I3.set2 hkl c HC.out ep ⟨a3, n, c3, b⟩ hLie (by show n ≤ 100; omega)
  have f2 := I3.frozen (c + 2)
  have f3 := I3.frozen (c + 3)
  obtain ⟨y2, y3⟩ : w3.cell? ⟨g, c + 2, none⟩ = some (.int .i64 x.e2) ∧ w3.cell? ⟨g, c + 3, none⟩ = some (.slice x.d2.a x.d2.n x.d2.c) := by
    have := I3.sh hkl c HC.out
    rw [HX.out] at this
    exact this.2.2
  have HOw := hid ho
  clear ho
  go_wp2_with fail
  have cw : ((w3.setCell ⟨g, c + 2, none⟩ (.int .i64 ep)).setCell ⟨g, c + 3, none⟩ (.slice a3 n c3)).cell? ⟨g, 102, none⟩ = some (.int .i64 (s.writes : Int)) := by
    rw [I5.cell]; exact stC_writes _ _ I5.len
  refine (addCell_any cw (I5.frozen 102) (by omega)).mono ?_
  rintro e' w6 ⟨rfl, rfl⟩
  have ht6 := tch ht5 102 (.int .i64 ((s.writes + 1 : Nat) : Int))
  have I7 : IsStore _ w0.heap.size (fun y => F y ∨ (Value.slice a3 n c3).ownBlock = some y) g { s.put N ⟨x.e1, x.d1.l, ep, b⟩ with writes := s.writes + 1 } _ :=
    I5.upd (tch (tch0 g _) 102 (.int .i64 ((s.writes + 1 : Nat) : Int))) (by
      have h1 := rowSet I5.row (i := 102) (.int .i64 ((s.writes + 1 : Nat) : Int))
      rw [stC_setW _ _ I5.len, HX.out] at h1
      exact h1) (by have := I5.len; rw [HX.out] at this; exact this) (by have := I5.ps; rw [HX.out] at this; exact this) (by have := I5.data; rw [HX.out] at this; exact this) (by have := I5.small; rw [HX.out] at this; exact this)
  have S9 := hid (HU2.out _ (storeT g { s.put N ⟨x.e1, x.d1.l, ep, b⟩ with writes := s.writes + 1 }) _ ⟨_, I7⟩ ((Touch.ofBelow (M := F) hb03).trans (N := fun b => b = g) ht6 (fun y hy => by subst hy; exact .inl HI.out.foot)) (fun y hy => by
    rcases hy with hy | hy
    · exact .inl hy
    · have h1 := (hLie.own)
      have h2 := own_lt ((ownB _ _ _ _).2 (show Own w3 w.heap.size _ b from (HOw.out.base hb0.size))) y hy
      exact .inr h2.1))
  go_wp2
  go_ret
  exact ⟨rfl, S9.out⟩
end

end Go.Proofs.Ytilobmefomoemaa

namespace Go.Proofs.Ytilobmefomoemaa
set_option linter.unusedVariables false
set_option linter.unusedSimpArgs false
open Go.RowKit
section
variable {w0 w : World} {r : List Thing} {g : Nat} {s : SS}
theorem St.storeNew (S : St w0 w r) (room : Int) (cs : Array Value) (hc : cs.toList = stC (SS.new room) (List.replicate 25 Sh.zero)) :
    St w0 (w.alloc (.cells cs 97)) (r ++ [storeT w.heap.size (SS.new room)]) := by
  refine S.push ((Below.refl _ _).alloc (Nat.le_refl _) _) (F := fun b => b = w.heap.size) ⟨List.replicate 25 Sh.zero, S.size, ?_, rfl, by simp, by rw [List.map_replicate]; rfl, ?_, ?_, ?_⟩ (fun b hb => by subst hb; exact Nat.le_refl _)
  · have := heap_alloc_new w (.cells cs 97)
    rw [← hc]; simpa using this
  · intro x hx
    rw [List.eq_of_mem_replicate hx]
    exact ⟨BS.Lie.zero _ _ _, BS.Lie.zero _ _ _⟩
  · intro x hx
    rw [List.eq_of_mem_replicate hx]
    exact ⟨by decide, by decide⟩
  · intro b hb
    subst hb
    exact ⟨S.size, by show _ < (Array.push _ _).size; simp⟩
theorem stZero : Try.zeroCells97.toList = stC (SS.new 0) (List.replicate 25 Sh.zero) := by kernel_rfl
theorem stZero_set (room : Int) (M : Int) (h : max 0 room = M) : (Try.zeroCells97.setIfInBounds 0 (.int .i64 M)).toList = stC (SS.new room) (List.replicate 25 Sh.zero) := by
  rw [Array.toList_setIfInBounds, stZero, ← h]; rfl
set_option maxRecDepth 100000 in
set_option maxHeartbeats 1600000 in
theorem stNew_any (S : St w0 w r) (room : Int) :
    Calls Try.prog 23 #[.int .i64 room] w fun e w' => e = .returned (.pointer (some ⟨w.heap.size, 0, none⟩)) ∧ St w0 w' (r ++ [storeT w.heap.size (SS.new room)]) := by
  by_cases h : 0 ≤ room
  · have S2 := hid (S.storeNew room _ (stZero_set room room (by omega)))
    go_enter Try.func23, Try.ntmps23
    go_wp2
    all_goals (
      go_ret
      refine ⟨rfl, ?_⟩
      first | exact S2.out | (have e0 : room = 0 := by omega
                              have := S2.out
                              rw [e0] at this ⊢
                              exact this))
  · have S2 := hid (S.storeNew room _ (stZero_set room 0 (by omega)))
    go_enter Try.func23, Try.ntmps23
    go_wp2
    all_goals (first | (exfalso; omega) | (go_ret; exact ⟨rfl, S2.out⟩))
/-- How a store may be. -/
structure SS.Ok (s : SS) : Prop where
  len : s.js.length = 25
  small : ∀ x ∈ s.js, x.cd.length ≤ 100 ∧ x.sd.length ≤ 100
theorem St.storeOk (S : St w0 w r) (k : Nat) (hk : r[k]? = some (storeT g s)) : s.Ok := by
  obtain ⟨F, l, I⟩ := S.head k hk
  refine ⟨by rw [← I.ps, List.length_map, I.len], fun x hx => ?_⟩
  rw [← I.ps] at hx
  obtain ⟨y, hy, rfl⟩ := List.mem_map.1 hx
  have h1 := (I.data y hy).1.hd.len
  have h2 := (I.data y hy).2.hd.len
  have := I.small y hy
  show y.d1.l.length ≤ 100 ∧ y.d2.l.length ≤ 100
  omega
end

end Go.Proofs.Ytilobmefomoemaa
