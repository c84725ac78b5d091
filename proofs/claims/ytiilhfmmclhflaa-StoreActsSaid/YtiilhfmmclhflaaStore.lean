/- Stores: their cells, and the walks of store's functions. -/
import Derived.Test.YtiilhfmmclhflaaOwnC
import Derived.Test.YtiilhfmmclhflaaHeld
import Derived.Test.YtiilhfmmclhflaaEqs
namespace Go.Proofs.Ytiilhfmmclhflaa
set_option linter.unusedVariables false
set_option linter.unusedSimpArgs false
open Go.RowKit

/-- A shelf as it lies. -/
structure Sh where
  e1 : Int
  d1 : BS
  e2 : Int
  d2 : BS
def Sh.cs (x : Sh) : List Value := [.int .i64 x.e1, .slice x.d1.a x.d1.n x.d1.c, .int .i64 x.e2, .slice x.d2.a x.d2.n x.d2.c]
def shC (l : List Sh) : List Value := l.flatMap Sh.cs
theorem shC_len : ∀ l : List Sh, (shC l).length = l.length * 4
  | [] => rfl
  | x :: l => by
    have := shC_len l
    rw [shC, List.flatMap_cons, List.length_append, show l.flatMap Sh.cs = shC l from rfl, this, List.length_cons]
    show 4 + _ = _
    omega
theorem shC_get : ∀ (l : List Sh) (k j : Nat) (hk : k < l.length), j < 4 → (shC l)[k * 4 + j]? = (l[k]).cs[j]?
  | [], k, j, hk, _ => by simp at hk
  | x :: l, 0, j, hk, hj => by
    rw [shC, List.flatMap_cons, Nat.zero_mul, Nat.zero_add, List.getElem?_append_left (by show j < 4; exact hj)]; rfl
  | x :: l, k + 1, j, hk, hj => by
    rw [shC, List.flatMap_cons, List.getElem?_append_right (by show 4 ≤ _; omega)]
    have := shC_get l k j (by simpa using hk) hj
    rw [show (k + 1) * 4 + j - x.cs.length = k * 4 + j by show (k + 1) * 4 + j - 4 = _; omega]
    exact this
theorem shC_set : ∀ (l : List Sh) (k j : Nat) (y : Sh) (u : Value) (hk : k < l.length), j < 4 → y.cs = (l[k]).cs.set j u → shC (l.set k y) = (shC l).set (k * 4 + j) u
  | [], k, j, _, _, hk, _, _ => by simp at hk
  | x :: l, 0, j, y, u, hk, hj, h => by
    simp only [List.getElem_cons_zero] at h
    rw [List.set_cons_zero, shC, shC, List.flatMap_cons, List.flatMap_cons, h, Nat.zero_mul, Nat.zero_add, List.set_append_left _ _ (by show j < 4; exact hj)]
  | x :: l, k + 1, j, y, u, hk, hj, h => by
    simp only [List.getElem_cons_succ] at h
    have := shC_set l k j y u (by simpa using hk) hj h
    rw [List.set_cons_succ, shC, shC, List.flatMap_cons, List.flatMap_cons, List.set_append_right _ _ (by show 4 ≤ _; omega)]
    rw [show (k + 1) * 4 + j - x.cs.length = k * 4 + j by show (k + 1) * 4 + j - 4 = _; omega]
    congr 1
/-- A shelf: its checkpoint that counts, and the one that is staged (of the epoch 0: none). -/
structure PS where
  ce : Int
  cd : List UInt8
  se : Int
  sd : List UInt8
def Sh.ps (x : Sh) : PS := ⟨x.e1, x.d1.l, x.e2, x.d2.l⟩
/-- A store. -/
structure SS where
  room : Int
  term : Int
  js : List PS
  writes : Nat
def stC (s : SS) (l : List Sh) : List Value := .int .i64 s.room :: .int .i64 s.term :: (shC l ++ [.int .i64 (s.writes : Int)])
structure BS.Lie (w : World) (F : Nat → Prop) (g : Nat) (x : BS) : Prop where
  hd : BS.Hd x
  at_ : At w x.a x.l
  own : ∀ y, x.a = some y → F y.block ∧ y.block ≠ g
theorem BS.Lie.touch {w w' : World} {F M : Nat → Prop} {g : Nat} {x : BS} (h : x.Lie w F g) (ht : Touch M w w') (hM : ∀ b, F b → b ≠ g → ¬ M b) : x.Lie w' F g :=
  ⟨h.hd, h.at_.touch ht (fun y hy => hM _ (h.own y hy).1 (h.own y hy).2), h.own⟩
structure IsStore (w : World) (B : Nat) (F : Nat → Prop) (g : Nat) (s : SS) (l : List Sh) : Prop where
  base : B ≤ g
  row : w.heap[g]? = some (.cells (stC s l).toArray 82 (0, 0))
  foot : F g
  len : l.length = 25
  ps : l.map Sh.ps = s.js
  data : ∀ x ∈ l, x.d1.Lie w F g ∧ x.d2.Lie w F g
  small : ∀ x ∈ l, x.d1.n ≤ 100 ∧ x.d2.n ≤ 100
  low : ∀ b, F b → B ≤ b ∧ b < w.heap.size
def storeT (g : Nat) (s : SS) : Thing where
  lies := fun w B F => ∃ l, IsStore w B F g s l
  touch := fun ⟨l, h⟩ ht _ hM => ⟨l, h.base, by rw [ht.block g (Array.getElem?_eq_some_iff.1 h.row).1 (hM g h.foot)]; exact h.row, h.foot, h.len, h.ps, fun x hx => ⟨(h.data x hx).1.touch ht (fun b hb _ => hM b hb), (h.data x hx).2.touch ht (fun b hb _ => hM b hb)⟩, h.small, fun b hb => ⟨(h.low b hb).1, Nat.lt_of_lt_of_le (h.low b hb).2 ht.size⟩⟩
  low := fun ⟨_, h⟩ => h.low
theorem IsStore.cell {w : World} {B : Nat} {F : Nat → Prop} {g : Nat} {s : SS} {l : List Sh} (h : IsStore w B F g s l) (i : Nat) : w.cell? ⟨g, i, none⟩ = (stC s l)[i]? := by
  rw [cell_of_row w g i _ _ _ h.row]; simp
theorem IsStore.frozen {w : World} {B : Nat} {F : Nat → Prop} {g : Nat} {s : SS} {l : List Sh} (h : IsStore w B F g s l) (i : Nat) : w.frozen? ⟨g, i, none⟩ = false := frozen_of_row w g i _ _ h.row
theorem stC_sh (s : SS) (l : List Sh) (k j : Nat) (hk : k < l.length) (hj : j < 4) : (stC s l)[2 + (k * 4 + j)]? = (l[k]).cs[j]? := by
  rw [Nat.add_comm 2]
  show (shC l ++ _)[k * 4 + j]? = _
  rw [List.getElem?_append_left (by rw [shC_len]; omega), shC_get l k j hk hj]
theorem stC_writes (s : SS) (l : List Sh) (h : l.length = 25) : (stC s l)[102]? = some (.int .i64 (s.writes : Int)) := by
  show (shC l ++ _)[100]? = _
  rw [List.getElem?_append_right (by rw [shC_len]; omega), shC_len, h]; rfl
/-- A shelf's cells. -/
theorem IsStore.sh {w : World} {B : Nat} {F : Nat → Prop} {g : Nat} {s : SS} {l : List Sh} (h : IsStore w B F g s l) {k : Nat} (hk : k < l.length) (c : Nat) (hc : 2 + k * 4 = c) :
    w.cell? ⟨g, c, none⟩ = some (.int .i64 (l[k]).e1) ∧ w.cell? ⟨g, c + 1, none⟩ = some (.slice (l[k]).d1.a (l[k]).d1.n (l[k]).d1.c) ∧ w.cell? ⟨g, c + 2, none⟩ = some (.int .i64 (l[k]).e2) ∧ w.cell? ⟨g, c + 3, none⟩ = some (.slice (l[k]).d2.a (l[k]).d2.n (l[k]).d2.c) := by
  subst hc
  refine ⟨?_, ?_, ?_, ?_⟩
  · rw [h.cell]; exact stC_sh s l k 0 hk (by decide)
  · rw [h.cell]; exact stC_sh s l k 1 hk (by decide)
  · rw [h.cell]; exact stC_sh s l k 2 hk (by decide)
  · rw [h.cell]; exact stC_sh s l k 3 hk (by decide)
theorem loadSh {w : World} {B : Nat} {F : Nat → Prop} {g : Nat} {s : SS} {l : List Sh} (h : IsStore w B F g s l) : (loadCells ⟨g, 2, none⟩ 100).run Try.prog w = .ok (shC l).toArray w := by
  have hl : (shC l).length = 100 := by rw [shC_len, h.len]
  rw [← hl]
  refine run_loadCells_list w ⟨g, 2, none⟩ (shC l) fun j v hj => ?_
  have e : (⟨g, 2, none⟩ : Addr).add j = ⟨g, 2 + j, none⟩ := by simp [Addr.add_lit]
  rw [e, h.cell, Nat.add_comm]
  show (shC l ++ _)[j]? = _
  rw [List.getElem?_append_left (List.getElem?_eq_some_iff.1 hj).1]
  exact hj
/-- A load of whatever lies behind an address. -/
theorem wpList_loadV {P : Program} {ops : Array Oper} {rest : List Oper} {o : Oper} {a : Act} {w : World} {Q : Exit → Act → World → Prop} (hgd : o.guard = none) (ty : TypeId) (x : Operand) (ho : o.op = .load ty x)
    (p : Addr) (hx : a.eval x = .pointer (some p)) (v : Value) (hl : (loadVar ty p).run P w = .ok v w) (h : wpList P ops Q rest (a.put o.dst v) w) : wpList P ops Q (o :: rest) a w :=
  wpList_plain hgd fun _ hK => by
    unfold Oper.wp execOp
    simp only [ho, hx, Instr.loadAt, Instr.sureAddr, Sem.run_bind, Sem.run_pure, Result.andThen_ok, hl]
    exact hK _ _ h
theorem loadArr {w : World} {B : Nat} {F : Nat → Prop} {g : Nat} {s : SS} {l : List Sh} (h : IsStore w B F g s l) : (loadVar 75 ⟨g, 2, none⟩).run Try.prog w = .ok (.agg (shC l).toArray) w := by
  have ht : Try.prog.underlying 75 = some (.array 25 74) := by kernel_rfl
  have hs : (sizeOf 75).run Try.prog w = .ok 100 w := by kernel_rfl
  unfold loadVar
  simp only [isAgg, Sem.run_bind, run_underlying ht, Result.andThen_ok, Sem.run_pure, if_true, hs, loadSh h]
def usedP (l : List PS) : Nat := (l.map fun x => x.cd.length + x.sd.length).sum
def usedS (l : List Sh) (k : Nat) : Nat := ((l.take k).map fun x => x.d1.n + x.d2.n).sum
theorem usedS_step {l : List Sh} {k : Nat} (h : k < l.length) : usedS l (k + 1) = usedS l k + (l[k].d1.n + l[k].d2.n) := by
  unfold usedS
  rw [List.take_succ_eq_append_getElem h, List.map_append, List.sum_append]
  simp
theorem usedS_le {l : List Sh} (h : ∀ x ∈ l, x.d1.n ≤ 100 ∧ x.d2.n ≤ 100) : ∀ k, k ≤ l.length → usedS l k ≤ 200 * k
  | 0, _ => by simp [usedS]
  | k + 1, hk => by
    have h1 := usedS_le h k (by omega)
    have h2 := h _ (List.getElem_mem (show k < l.length by omega))
    rw [usedS_step (by omega)]; omega
section
variable {w0 w : World} {r : List Thing} {g : Nat} {s : SS}
theorem idxSh (l : List Sh) (h : l.length = 25) (k : Nat) (hk : k < 25) (wx : World) : (Instr.index 75 (.agg (shC l).toArray) (.int .i64 (k : Int))).run Try.prog wx = .ok (.agg (l[k]'(by omega)).cs.toArray) wx := by
  have ht : Try.prog.underlying 75 = some (.array 25 74) := by kernel_rfl
  have hs : (sizeOf 74).run Try.prog wx = .ok 4 wx := by kernel_rfl
  have hst : Try.prog.underlying 74 = some (.struct (Try.prog.fieldsOf 74)) := by kernel_rfl
  have htake : ((shC l).drop (k * 4)).take 4 = (l[k]'(by omega)).cs := by
    refine List.ext_getElem? fun i => ?_
    rcases Nat.lt_or_ge i 4 with hi | hi
    · rw [List.getElem?_take_of_lt hi, List.getElem?_drop, shC_get l k i (by omega) hi]
    · rw [List.getElem?_eq_none (by rw [List.length_take]; omega), List.getElem?_eq_none (by show 4 ≤ i; exact hi)]
  have hext : (shC l).toArray.extract (k * 4) (k * 4 + 4) = (l[k]'(by omega)).cs.toArray := by
    apply Array.ext'
    rw [Array.toList_extract]
    simp only [List.extract_eq_take_drop]
    rw [show k * 4 + 4 - k * 4 = 4 by omega]
    exact htake
  have h0 : 0 ≤ (k : Int) ∧ (k : Int) < 25 := by omega
  have hp : (part 74 (shC l).toArray (k * 4)).run Try.prog wx = .ok (.agg (l[k]'(by omega)).cs.toArray) wx := by
    unfold part
    simp only [isAgg, Sem.run_bind, run_underlying hst, Result.andThen_ok, Sem.run_pure, if_true, hs, hext]
  have h1 : ((k : Int)).toNat * 4 = k * 4 := by omega
  unfold Instr.index
  simp only [asIntOf, Sem.run_bind, Sem.run_pure, Result.andThen_ok, run_underlying ht, hs]
  rw [if_pos (by exact h0), Sem.run_bind, hs, Result.andThen_ok, h1, hp]
set_option maxRecDepth 10000 in
theorem stUsed_any (S : St w0 w r) (k : Nat) (hk : r[k]? = some (storeT g s)) :
    Calls Try.prog 17 #[.pointer (some ⟨g, 0, none⟩)] w fun e w' => e = .returned (.int .i64 (usedP s.js : Int)) ∧ Below w.heap.size w w' := by
  obtain ⟨F, l, I⟩ := S.head k hk
  have hl := hid (loadArr I)
  have HL := hid I.len
  have hps : Hid (usedS l 25 = usedP s.js) := by
    rw [Hid, ← I.ps]; unfold usedS usedP
    rw [List.take_of_length_le (by have := I.len; omega), List.map_map]
    congr 1
    refine List.map_congr_left fun x hx => ?_
    have h1 := (I.data x hx).1.hd.len
    have h2 := (I.data x hx).2.hd.len
    show x.d1.n + x.d2.n = x.d1.l.length + x.d2.l.length
    omega
  have hsm := hid I.small
  clear S hk
  go_enter Try.func17, Try.ntmps17
  go_wp2_with (refine wpList_loadV rfl 75 (.tmp 10) rfl ⟨g, 2, none⟩ rfl _ hl.out ?_)
  go_loopw [3, 12] (fun q i wr => ∃ k : Nat, k ≤ 25 ∧ i = .int .i64 k ∧ q = .int .i64 (usedS l k : Int) ∧ Below w.heap.size w wr) (fun _ i _ => 25 - (intOf i).toNat)
  case atStart => exact ⟨0, by omega, rfl, by simp [usedS], Below.refl _ _⟩
  case round =>
    obtain ⟨k, hk, rfl, rfl, hb⟩ := hrel
    by_cases hlt : k < 25
    case neg =>
      have g0 : decide ((k : Int) < 25) = false := decide_eq_false (by omega)
      have ek : k = 25 := by omega
      subst ek
      clear hlt
      go_wp2
      go_ret
      exact ⟨by rw [← hps.out]; rfl, hb⟩
    have g0 : decide ((k : Int) < 25) = true := decide_eq_true (by omega)
    have hkl : k < l.length := by rw [HL.out]; exact hlt
    have ix := fun wx => idxSh l HL.out k hlt wx
    have hst := usedS_step hkl
    have hsm2 := hsm.out _ (List.getElem_mem hkl)
    have hle := usedS_le hsm.out k (by omega)
    obtain ⟨x, hx⟩ : ∃ x, l[k] = x := ⟨_, rfl⟩
    have hxe : ∀ hkl' : k < l.length, l[k]'hkl' = x := fun _ => hx
    simp only [hxe] at ix
    rw [hx] at hst hsm2
    obtain ⟨U, hU⟩ : ∃ U, usedS l k = U := ⟨_, rfl⟩
    rw [hU] at hst hle ⊢
    have HST := hid hst
    have SB : St w wr [] := ⟨hb, (St.start w).grow hb |>.has⟩
    clear hx hxe hU hst hsm HL hps hl hb I
    rw [show x.cs.toArray = #[.int .i64 x.e1, .slice x.d1.a x.d1.n x.d1.c, .int .i64 x.e2, .slice x.d2.a x.d2.n x.d2.c] from rfl] at ix
    go_wp2
    go_roundw
    case rel => exact ⟨k + 1, by omega, by go_num, by rw [HST.out]; go_num, (SB.alloc _).fin⟩
    case measure => simp [intOf]; omega
end

end Go.Proofs.Ytiilhfmmclhflaa
