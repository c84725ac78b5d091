/- A slice of one's own that may be cut: its capacity may be less than its block. -/
import Derived.Test.YtjfbmgndekfglaaDoorLogs
import Derived.Deep.DeepAppendRoom
namespace Go.Proofs.YtjfbmgndekfglaaDoor
set_option linter.unusedVariables false
set_option linter.unusedSimpArgs false
open Go.RowKit
section
variable {α : Type} {e : Elt α} {w0 w : World} {r : List Thing}

def OwnC (e : Elt α) (w : World) (B : Nat) (v : Value) (l : List α) : Prop := ∃ a n cap CAP, v = .slice a n cap ∧ n ≤ cap ∧ cap ≤ CAP ∧ OwnG e w B (.slice a n CAP) l
theorem OwnG.cut (he : e.Ok) {B : Nat} {v : Value} {l : List α} (h : OwnG e w B v l) : OwnC e w B v l := by
  obtain ⟨a, cap, rfl, h1, _⟩ := h.sl he
  exact ⟨a, _, cap, cap, rfl, h1, Nat.le_refl _, h⟩
theorem OwnC.at (he : e.Ok) {B : Nat} {v : Value} {l : List α} (h : OwnC e w B v l) :
    ∃ a cap, v = .slice a l.length cap ∧ l.length ≤ cap ∧ cap ≤ maxLen ∧ (a = none → cap = 0) ∧ AtG e w a l ∧ (∀ x, a = some x → x = ⟨x.block, 0, none⟩) := by
  obtain ⟨a, n, cap, CAP, rfl, h1, h2, h3⟩ := h
  obtain ⟨a', C', e', h4, h5, h6, h7, h8⟩ := OwnG.at he h3
  cases e'
  refine ⟨a, cap, rfl, h1, by omega, fun h => by have := h6 h; omega, h7, ?_⟩
  rintro x rfl
  rcases h3.2 with ⟨e2, _⟩ | ⟨g, _, _, e2, _⟩ <;> cases e2
  rfl
theorem OwnC.touch {M : Nat → Prop} {w' : World} {B : Nat} {v : Value} {l : List α} (h : OwnC e w B v l) (ht : Touch M w w') (hne : ∀ g, v.ownBlock = some g → ¬ M g) : OwnC e w' B v l := by
  obtain ⟨a, n, cap, CAP, rfl, h1, h2, h3⟩ := h
  refine ⟨a, n, cap, CAP, rfl, h1, h2, h3.touch ht ?_⟩
  intro g hg
  exact hne g (by cases a <;> exact hg)
theorem OwnC.lt {B : Nat} {v : Value} {l : List α} (h : OwnC e w B v l) : ∀ g, v.ownBlock = some g → B ≤ g ∧ g < w.heap.size := by
  obtain ⟨a, n, cap, CAP, rfl, h1, h2, h3⟩ := h
  intro g hg
  exact own_lt h3 g (by cases a <;> exact hg)
theorem flatG_take (he : e.Ok) (l : List α) (i : Nat) (hi : i ≤ l.length) : (l.take i).flatMap e.enc = (l.flatMap e.enc).take (i * e.s) := by
  have h : (l.take i).flatMap e.enc ++ (l.drop i).flatMap e.enc = l.flatMap e.enc := by rw [← List.flatMap_append, List.take_append_drop]
  rw [← h]
  exact (List.take_left' (by rw [flat_len he, List.length_take, Nat.min_eq_left hi])).symm
theorem OwnC.head (he : e.Ok) {B : Nat} {a : Option Addr} {n c : Nat} {l : List α} (h : OwnC e w B (.slice a n c) l) {i : Nat} (hi : i ≤ n) : OwnC e w B (.slice a i i) (l.take i) := by
  obtain ⟨a', n', cap, CAP, e1, h1, h2, h3⟩ := h
  injection e1 with e1 e2 e3
  subst e1 e2 e3
  have hl : (l.take i).flatMap e.enc = (l.flatMap e.enc).take (i * e.s) := by
    obtain ⟨_, _, e2, _⟩ := OwnG.at he h3
    cases e2
    exact flatG_take he l i hi
  refine ⟨a, i, i, CAP, rfl, Nat.le_refl _, by omega, ?_⟩
  rcases h3.2 with ⟨e2, h0⟩ | ⟨g, C2, cur, e2, hB, hg, k1, k2, k3, k4⟩
  · cases e2
    obtain rfl : i = 0 := by omega
    exact OwnG.nil _ _
  · cases e2
    have hll := hi
    have hti : (l.take i).length = i := by
      obtain ⟨_, _, e2, _⟩ := OwnG.at he h3
      injection e2 with _ e2
      rw [List.length_take]; omega
    refine ⟨by rw [flat_len he], .inr ⟨g, _, cur, by rw [hti], hB, hg, by omega, k2, k3, ?_⟩⟩
    rw [hti, hl, ← k4, List.take_take, Nat.min_eq_left]
    exact Nat.mul_le_mul_right _ (by omega)
structure AppC (e : Elt α) (w w' : World) (B : Nat) (v v' : Value) (l : List α) : Prop where
  own : OwnC e w' B v' l
  touch : Touch (fun b => v.ownBlock = some b) w w'
  blk : ∀ g, v'.ownBlock = some g → v.ownBlock = some g ∨ w.heap.size ≤ g
theorem runC_full (he : e.Ok) (w : World) (B : Nat) (v : Value) (l : List α) (hown : OwnC e w B v l) (ad : Option Addr) (m : List α) (n cb : Nat) (hn : m.length = n) (hat : AtG e w ad m)
    (hlen : (l.length + n) * e.byt ≤ 140737488355328) (h63 : l.length + n ≤ maxLen) (hB : B ≤ w.heap.size) :
    ∃ v' w', (Builtin.append_ #[e.T, e.T] e.T #[v, .slice ad n cb]).run Tryd.prog w = .ok v' w' ∧ AppC e w w' B v v' (l ++ m) := by
  subst hn
  have hc := hown
  obtain ⟨a, n0, cap, CAP, rfl, h1, h2, ho⟩ := hown
  obtain ⟨_, _, e1, _⟩ := OwnG.at he ho
  cases e1
  obtain ⟨i, hi, hz0, hz1, hz2⟩ := info_parts he.info
  by_cases hm : m = []
  · subst hm
    refine ⟨_, w, ?_, by simpa using hc, Touch.refl _ _, fun g hg => .inl hg⟩
    cases a <;> cases ad <;> simp [Builtin.append_, run_underlying he.under, sizeOf, typeInfo, hi, Builtin.lenOf, Builtin.firstCells, h1, storeCells, loadCells, loadCellsFrom]
  have hpos : 0 < m.length := List.length_pos_iff.2 hm
  obtain ⟨x, rfl⟩ := Option.isSome_iff_exists.1 (hat 0 hpos).1
  rcases ho.2 with ⟨e2, h0⟩ | ⟨g, C2, cur, e2, hBg, hg, k1, k2, k3, k4⟩
  · injection e2 with e3 e4 e5
    subst e3 e5
    obtain rfl : cap = 0 := by omega
    obtain ⟨v', w', hr, ha⟩ := runG_full he w B _ l ho (some x) m m.length cb rfl hat hlen h63 hB
    exact ⟨v', w', hr, ha.own.cut he, ha.touch, ha.blk⟩
  · cases e2
    have hnl : (m.flatMap e.enc).length = m.length * i.size := by rw [hz1]; exact flat_len he m
    by_cases hroom : l.length + m.length ≤ cap
    · have hfit : l.length * i.size + (m.flatMap e.enc).length ≤ cur.size := by rw [hnl, k3, hz1, ← Nat.add_mul]; exact Nat.mul_le_mul_right _ (by omega)
      have r1 := run_append_room (P := Tryd.prog) w e.T e.T e.E i he.under hi g l.length cap cur hg x m.length cb (m.flatMap e.enc) hnl (AtG.cells he hat) (flat_one he m) hroom hfit
      have r2 := run_append_room (P := Tryd.prog) w e.T e.T e.E i he.under hi g l.length CAP cur hg x m.length cb (m.flatMap e.enc) hnl (AtG.cells he hat) (flat_one he m) (by omega) hfit
      obtain ⟨w', r3, r4, r5⟩ := run_append_own_spare (P := Tryd.prog) w B e.T e.T e.E i e.s he.under hi hz1 g l.length CAP (l.flatMap e.enc) ho x m.length cb (m.flatMap e.enc) (flat_len he m) (AtG.cells he hat) (flat_one he m) (by omega)
      rw [r2] at r3
      injection r3 with _ r3
      rw [r3] at r1
      refine ⟨_, _, r1, ⟨_, _, cap, CAP, rfl, hroom, h2, ?_⟩, ⟨r5.os, r5.tape, r5.output, r5.size, fun b hb hne => r5.block b hb (fun e => hne e.symm)⟩, fun b hb => .inl hb⟩
      unfold OwnG
      rw [List.length_append, List.flatMap_append]
      exact r4
    · have holds : ∀ j u, (l.flatMap e.enc)[j]? = some u → w.cell? ((⟨g, 0, none⟩ : Addr).add j) = some u := World.ownsRow.cells ho (g := g) rfl
      have hsm : l.length + m.length ≤ 9223372036854775807 := by unfold maxLen at h63; omega
      have hr := run_append_grow (P := Tryd.prog) w e.T e.T e.E i e.z he.under hi hz0 ⟨g, 0, none⟩ l.length cap (l.flatMap e.enc) (by rw [hz1]; exact flat_len he l) holds x m.length cb (m.flatMap e.enc) hnl (AtG.cells he hat) (by omega) (by omega) (growslice_fits (by omega) (by rw [hz2]; exact hlen))
      have hge := grownCap_ge w (l.length + m.length) cap e.E
      have hcm : grownCap w (l.length + m.length) cap e.E ≤ maxLen := grownCap_le_maxLen w (l.length + m.length) cap e.E h63
      have hfl : ((l ++ m).flatMap e.enc).length = (l.length + m.length) * e.s := by rw [flat_len he, List.length_append]
      refine ⟨_, _, hr, OwnG.cut he ⟨flat_len he _, .inr ⟨w.heap.size, _, _, by rw [List.length_append], hB, heap_alloc_new w.drew _, by rw [List.length_append]; exact hge, hcm, ?_, ?_⟩⟩, ⟨rfl, rfl, rfl, by simp, fun k hk _ => heap_alloc_old w.drew _ hk⟩, ?_⟩
      · rw [Array.size_append, Array.size_append, List.size_toArray, List.size_toArray, size_zeroCells, he.zc, flat_len he, flat_len he, ← Nat.add_mul, ← Nat.add_mul]
        obtain ⟨x, hx⟩ : ∃ x, l.length + m.length = x := ⟨_, rfl⟩
        obtain ⟨y, hy⟩ : ∃ y, grownCap w x cap e.E = y := ⟨_, rfl⟩
        rw [hx] at hge ⊢
        rw [hy] at hge ⊢
        rw [Nat.add_sub_cancel' hge]
      · simp only [Array.toList_append, List.append_assoc]
        rw [← List.append_assoc, ← List.flatMap_append, ← flat_len he]
        exact List.take_left
      · intro b hb
        simp [Value.ownBlock] at hb
        exact .inr (by omega)

/-- The thing. -/
def ownCT (e : Elt α) (v : Value) (l : List α) : Thing where
  lies := fun w B F => OwnC e w B v l ∧ (∀ b, F b ↔ v.ownBlock = some b)
  touch := fun h ht _ hM => ⟨h.1.touch ht (fun b hb => hM b ((h.2 b).2 hb)), h.2⟩
  low := fun h b hb => h.1.lt b ((h.2 b).1 hb)
theorem St.nilC (e : Elt α) (S : St w0 w r) : St w0 w (r ++ [ownCT e (.slice none 0 0) []]) :=
  S.push (Below.refl _ _) (y := ownCT e (.slice none 0 0) []) (F := fun _ => False) ⟨⟨none, 0, 0, 0, rfl, Nat.le_refl _, Nat.le_refl _, OwnG.nil _ _⟩, fun b => by simp [Value.ownBlock]⟩ (fun _ h => h.elim)
theorem St.slC (he : e.Ok) (S : St w0 w r) (k : Nat) {a : Option Addr} {n c : Nat} {l : List α} (hk : r[k]? = some (ownCT e (.slice a n c) l)) :
    l.length = n ∧ n ≤ c ∧ c ≤ maxLen ∧ (a = none → c = 0) ∧ AtG e w a l ∧ (∀ x, a = some x → x = ⟨x.block, 0, none⟩) := by
  obtain ⟨F, h, _⟩ := S.head k hk
  obtain ⟨a', c', e', h1, h2, h3, h4, h5⟩ := OwnC.at he h
  cases e'
  exact ⟨rfl, h1, h2, h3, h4, h5⟩
theorem St.writtenC (he : e.Ok) (S : St w0 w r) (k : Nat) {v : Value} {l : List α} (hk : r[k]? = some (ownCT e v l)) : ∃ a c, v = .slice a l.length c := by
  obtain ⟨F, h, _⟩ := S.head k hk
  obtain ⟨a', c', e', _⟩ := OwnC.at he h
  exact ⟨a', c', e'⟩
theorem St.appC (he : e.Ok) (S : St w0 w r) (k : Nat) {v : Value} {l : List α} (hk : r[k]? = some (ownCT e v l)) (ad : Option Addr) (m : List α) (n cb : Nat) (hn : m.length = n) (hat : AtG e w ad m)
    (N : Nat) (hN : l.length + n = N) (hlen : N * e.byt ≤ 140737488355328) (h63 : N ≤ maxLen) :
    ∃ v' w', (Builtin.append_ #[e.T, e.T] e.T #[v, .slice ad n cb]).run Tryd.prog w = .ok v' w' ∧ (∃ a c, v' = .slice a N c) ∧ St w0 w' (r.set k (ownCT e v' (l ++ m))) := by
  subst hN
  obtain ⟨F, ⟨h1, h2⟩, h3⟩ := S.step k hk
  obtain ⟨v', w', hr, ha⟩ := runC_full he w w0.heap.size v l h1 ad m n cb hn hat hlen h63 S.size
  obtain ⟨a', c', e', _⟩ := ha.own.at he
  rw [List.length_append, hn] at e'
  exact ⟨v', w', hr, ⟨a', c', e'⟩, h3 w' _ (fun b => v'.ownBlock = some b) ⟨ha.own, fun b => Iff.rfl⟩ (ha.touch.mono fun b hb => (h2 b).2 hb) (fun b hb => (ha.blk b hb).elim (fun h => .inl ((h2 b).2 h)) .inr)⟩
theorem St.appC1 (he : e.Ok) (S : St w0 w r) (g : Nat) (hg : g = w.heap.size) (k : Nat) {v : Value} {l : List α} (hk : r[k]? = some (ownCT e v l)) (x : α) (c : Array Value) (hc : c.toList = e.enc x)
    (N : Nat) (hN : l.length + 1 = N) (hlen : N * e.byt ≤ 140737488355328) (h63 : N ≤ maxLen) :
    ∃ v' w', (Builtin.append_ #[e.T, e.T] e.T #[v, .slice (some ⟨g, 0, none⟩) 1 1]).run Tryd.prog (w.alloc (.cells c e.E)) = .ok v' w' ∧ (∃ a c, v' = .slice a N c) ∧ St w0 w' (r.set k (ownCT e v' (l ++ [x]))) := by
  subst hg
  have hn := ownG_new he w w.heap.size [x] c 1 rfl (by simpa using hc) (by simp [maxLen]) (Nat.le_refl _)
  obtain ⟨a, cap, e1, _, _, _, hat⟩ := hn.sl he
  cases e1
  exact (S.alloc (.cells c e.E)).appC he k hk _ [x] 1 1 rfl hat N hN hlen h63
/-- `l[:i:i]` -/
theorem St.headC (he : e.Ok) (S : St w0 w r) (k : Nat) {a : Option Addr} {n c : Nat} {l : List α} (hk : r[k]? = some (ownCT e (.slice a n c) l)) {i : Nat} (hi : i ≤ n) : St w0 w (r.set k (ownCT e (.slice a i i) (l.take i))) :=
  S.turn k hk (fun F h => ⟨h.1.head he hi, fun b => (h.2 b).trans (by cases a <;> simp [Value.ownBlock])⟩)
/-- `append(l[:i:i], l[i+1:]...)` -/
theorem St.cutC (he : e.Ok) (S : St w0 w r) (k : Nat) {a : Option Addr} {n c : Nat} {l : List α} (hk : r[k]? = some (ownCT e (.slice a n c) l)) {i : Nat} (hi : i < n)
    (N : Nat) (hN : n - 1 = N) (hlen : n * e.byt ≤ 140737488355328) :
    ∃ v' w', (Builtin.append_ #[e.T, e.T] e.T #[.slice a i i, .slice (cutG e a (i + 1) c) (n - (i + 1)) (c - (i + 1))]).run Tryd.prog w = .ok v' w' ∧ (∃ a c, v' = .slice a N c) ∧ St w0 w' (r.set k (ownCT e v' (l.eraseIdx i))) := by
  obtain ⟨h1, h2, h3, h4, h5, _⟩ := S.slC he k hk
  have hkl := (List.getElem?_eq_some_iff.1 hk).1
  have hat := h5.cut (i + 1) (n - (i + 1)) c (by omega)
  rw [List.take_of_length_le (by rw [List.length_drop]; omega)] at hat
  obtain ⟨v', w', q1, q2, q3⟩ := (S.headC he k hk (i := i) (by omega)).appC he k (by rw [List.getElem?_set_self hkl]) _ _ (n - (i + 1)) (c - (i + 1)) (by rw [List.length_drop]; omega) hat N (by rw [List.length_take]; omega) (Nat.le_trans (Nat.mul_le_mul_right _ (by omega)) hlen) (by omega)
  exact ⟨v', w', q1, q2, by rw [List.set_set] at q3; rw [List.eraseIdx_eq_take_drop_succ]; exact q3⟩
theorem cutG_m (he : e.Ok) (a : Option Addr) (n cap hi : Nat) (i j : Int) (ei : i = hi) (ej : j = hi) (h : hi ≤ cap) (wx : World) :
    (Instr.slice e.T (.slice a n cap) none (some (.int .i64 i)) (some (.int .i64 j))).run Tryd.prog wx = .ok (.slice a hi hi) wx := by
  subst ei ej
  rw [run_slice_any wx _ a n cap (underG he)]
  have e2 : ((hi : Int)) ≤ (cap : Int) := by omega
  have hb : (Instr.sliceBounds true n cap none (some (.int .i64 (hi : Int))) (some (.int .i64 (hi : Int)))).run Tryd.prog wx = .ok (0, hi, hi) wx := by
    simp [Instr.sliceBounds, run_sliceBound, e2]
  rw [hb]
  simp only [Result.andThen]
  rw [sizeG he]
  have : ∀ x : Addr, x.add 0 = x := fun x => by simp [Addr.add]
  simp [Result.andThen, sliced]
  cases a <;> simp [this]
theorem cutG_l (he : e.Ok) (a : Option Addr) (n cap lo : Nat) (i : Int) (ei : i = lo) (h1 : lo ≤ n) (h2 : n ≤ cap) (wx : World) :
    (Instr.slice e.T (.slice a n cap) (some (.int .i64 i)) none none).run Tryd.prog wx = .ok (.slice (cutG e a lo cap) (n - lo) (cap - lo)) wx := by
  subst ei
  have hn : ((lo : Int)) ≤ (n : Int) := by omega
  rw [run_slice_any wx _ a n cap (underG he)]
  have e2 : ((n : Int)) ≤ (cap : Int) := by omega
  have hb : (Instr.sliceBounds true n cap (some (.int .i64 (lo : Int))) none none).run Tryd.prog wx = .ok (lo, n, cap) wx := by
    simp [Instr.sliceBounds, run_sliceBound, hn, e2]
  rw [hb]
  simp only [Result.andThen]
  rw [sizeG he]
  simp [Result.andThen, sliced, cutG]
/-- One cell of an element is stored. -/
theorem flat_set (he : e.Ok) : ∀ (l : List α) (i j : Nat) (x : α) (u : Value) (hi : i < l.length), j < e.s → e.enc x = (e.enc l[i]).set j u → (l.set i x).flatMap e.enc = (l.flatMap e.enc).set (i * e.s + j) u
  | [], i, j, x, u, hi, _, _ => by simp at hi
  | y :: l, 0, j, x, u, hi, hj, h => by
    simp only [List.getElem_cons_zero] at h
    rw [List.set_cons_zero, List.flatMap_cons, List.flatMap_cons, h, Nat.zero_mul, Nat.zero_add, List.set_append_left _ _ (by rw [he.len]; exact hj)]
  | y :: l, i + 1, j, x, u, hi, hj, h => by
    simp only [List.getElem_cons_succ] at h
    rw [List.set_cons_succ, List.flatMap_cons, List.flatMap_cons, flat_set he l i j x u (by simpa using hi) hj h, List.set_append_right _ _ (by rw [he.len, Nat.add_mul]; omega), he.len]
    congr 2
    rw [Nat.add_mul]; omega
theorem OwnC.set (he : e.Ok) {B g n c : Nat} {l : List α} (h : OwnC e w B (.slice (some ⟨g, 0, none⟩) n c) l) {i j : Nat} (hi : i < l.length) (hj : j < e.s) (x : α) (u : Value) (hx : e.enc x = (e.enc l[i]).set j u) :
    OwnC e (w.setCell ⟨g, i * e.s + j, none⟩ u) B (.slice (some ⟨g, 0, none⟩) n c) (l.set i x) := by
  obtain ⟨a, n', cap, CAP, e1, h1, h2, h3⟩ := h
  injection e1 with e1 e2 e3
  subst e1 e2 e3
  refine ⟨_, n, c, CAP, rfl, h1, h2, ?_⟩
  rcases h3.2 with ⟨e2, h0⟩ | ⟨g', C2, cur, e2, hB, hg, k1, k2, k3, k4⟩
  · cases e2
  · cases e2
    refine ⟨by rw [flat_len he], .inr ⟨g, CAP, cur.setIfInBounds (i * e.s + j) u, by rw [List.length_set], hB, heap_setCell_same w g (i * e.s + j) cur _ u hg, by rw [List.length_set]; exact k1, k2, by rw [Array.size_setIfInBounds]; exact k3, ?_⟩⟩
    rw [flat_set he l i j x u hi hj hx, List.length_set, ← k4, Array.toList_setIfInBounds, List.take_set]
theorem St.setC (he : e.Ok) (S : St w0 w r) (k : Nat) {g n c : Nat} {l : List α} (hk : r[k]? = some (ownCT e (.slice (some ⟨g, 0, none⟩) n c) l)) {i j : Nat} (hi : i < l.length) (hj : j < e.s) (x : α) (u : Value) (hx : e.enc x = (e.enc l[i]).set j u) :
    St w0 (w.setCell ⟨g, i * e.s + j, none⟩ u) (r.set k (ownCT e (.slice (some ⟨g, 0, none⟩) n c) (l.set i x))) := by
  obtain ⟨F, ⟨h1, h2⟩, h3⟩ := S.step k hk
  exact h3 _ _ F ⟨h1.set he hi hj x u hx, h2⟩ ((Touch.refl F w).setCell (p := ⟨g, i * e.s + j, none⟩) (.inl ((h2 g).2 rfl)) _) (fun b hb => .inl hb)
theorem St.frozenC (he : e.Ok) (S : St w0 w r) (k : Nat) {g n c : Nat} {l : List α} (hk : r[k]? = some (ownCT e (.slice (some ⟨g, 0, none⟩) n c) l)) (o : Nat) : w.frozen? ⟨g, o, none⟩ = false := by
  obtain ⟨F, h, _⟩ := S.head k hk
  obtain ⟨a, n', cap, CAP, e1, h1, h2, h3⟩ := h
  injection e1 with e1 e2 e3
  subst e1 e2 e3
  rcases h3.2 with ⟨e2, h0⟩ | ⟨g', C2, cur, e2, hB, hg, _⟩
  · cases e2
  · cases e2
    exact frozen_of_row w g o _ _ hg
end

/-- The order of the things is free. -/
theorem St.permP {w0 w : World} {l m : List Thing} (h : l.Perm m) : ∀ (pre : List Thing), St w0 w (pre ++ l) → St w0 w (pre ++ m) := by
  induction h with
  | nil => exact fun _ S => S
  | cons x _ ih => exact fun pre S => St.conv (ih (pre ++ [x]) (St.conv S (by simp))) (by simp)
  | swap x y l =>
    intro pre S
    refine S.pick (fun i => if i = pre.length then pre.length + 1 else if i = pre.length + 1 then pre.length else i) ?_ ?_
    · intro i hi
      simp only [List.length_append, List.length_cons] at hi
      refine ⟨by simp only [List.length_append, List.length_cons]; split <;> (try split) <;> omega, ?_⟩
      by_cases h1 : i = pre.length
      · subst h1; simp
      · by_cases h2 : i = pre.length + 1
        · subst h2; simp
        · rw [if_neg h1, if_neg h2]
          rcases Nat.lt_or_ge i pre.length with h3 | h3
          · rw [List.getElem?_append_left h3, List.getElem?_append_left h3]
          · rw [List.getElem?_append_right h3, List.getElem?_append_right h3]
            obtain ⟨d, hd⟩ : ∃ d, i - pre.length = d + 2 := ⟨i - pre.length - 2, by omega⟩
            rw [hd]; rfl
    · intro i j hi hj hij
      split at hij <;> split at hij <;> (try split at hij) <;> (try split at hij) <;> omega
  | trans _ _ ih1 ih2 => exact fun pre S => ih2 pre (ih1 pre S)
theorem St.perm {w0 w : World} {l m : List Thing} (S : St w0 w l) (h : l.Perm m) : St w0 w m := St.permP h [] S

end Go.Proofs.YtjfbmgndekfglaaDoor
