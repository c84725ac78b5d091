/- Where a call stands: things that share no block, over a base world that stays as it was. Disks among other things, and what their methods say of one of them. The plain laws of layer 4: lists alone. Slices of ours whose elements lead to bytes of ours. -/
import Derived.Test.YtjfbmgndekfglaaDoorGround
import Derived.Test.YtjfbmgndekfglaaDoorDisks
namespace Go.Proofs.YtjfbmgndekfglaaDoor
set_option linter.unusedVariables false
set_option linter.unusedSimpArgs false
open Go.RowKit

/-- Something that lies in some blocks from `B` on (and may lean on blocks below `B`). -/
structure Thing where
  lies : World → Nat → (Nat → Prop) → Prop
  touch : ∀ {w w' : World} {B : Nat} {F M : Nat → Prop}, lies w B F → Touch M w w' → (∀ b, M b → B ≤ b) → (∀ b, F b → ¬ M b) → lies w' B F
  low : ∀ {w : World} {B : Nat} {F : Nat → Prop}, lies w B F → ∀ b, F b → B ≤ b ∧ b < w.heap.size

/-- The things `l`, of which no two share a block. -/
def Has (w : World) (B : Nat) (l : List Thing) : Prop :=
  ∃ F : Nat → Nat → Prop, (∀ (k : Nat) (x : Thing), l[k]? = some x → x.lies w B (F k)) ∧ ∀ (i j b : Nat), i < l.length → j < l.length → i ≠ j → F i b → ¬ F j b

/-- In the world `w`, which leaves all of `w0`, there are the things `l`. -/
structure St (w0 w : World) (l : List Thing) : Prop where
  below : Below w0.heap.size w0 w
  has : Has w w0.heap.size l

theorem St.size {w0 w : World} {l : List Thing} (S : St w0 w l) : w0.heap.size ≤ w.heap.size := S.below.size
theorem St.start (w : World) : St w w [] := ⟨Below.refl _ _, fun _ _ => False, fun k x h => by simp at h, fun i j b hi => by simp at hi⟩
theorem St.grow {w0 w w' : World} {l : List Thing} (S : St w0 w l) (hb : Below w.heap.size w w') : St w0 w' l := by
  obtain ⟨h1, F, h2, h3⟩ := S
  exact ⟨bst h1 hb, F, fun k x hk => x.touch (h2 k x hk) (Touch.ofBelow (M := fun _ => False) hb) (fun _ h => h.elim) (fun _ _ h => h), h3⟩
theorem St.alloc {w0 w : World} {l : List Thing} (S : St w0 w l) (o : Obj) : St w0 (w.alloc o) l := S.grow ((Below.refl _ _).alloc (Nat.le_refl _) o)
theorem St.drewN {w0 w : World} {l : List Thing} (S : St w0 w l) (n : Nat) : St w0 (w.drewN n) l := S.grow ((Below.refl _ _).trans ⟨rfl, rfl, rfl, Nat.le_refl _, fun _ _ => rfl⟩)
theorem St.drew {w0 w : World} {l : List Thing} (S : St w0 w l) : St w0 w.drew l := S.grow ((Below.refl _ _).trans ⟨rfl, rfl, rfl, Nat.le_refl _, fun _ _ => rfl⟩)
theorem St.head {w0 w : World} {l : List Thing} (S : St w0 w l) (k : Nat) {x : Thing} (h : l[k]? = some x) : ∃ F, x.lies w w0.heap.size F := by
  obtain ⟨_, F, h2, _⟩ := S
  exact ⟨F k, h2 k x h⟩
/-- What a call that turns one thing's blocks alone makes of them all. -/
theorem St.step {w0 w : World} {l : List Thing} (S : St w0 w l) (k : Nat) {x : Thing} (h : l[k]? = some x) :
    ∃ F, x.lies w w0.heap.size F ∧ ∀ (w' : World) (y : Thing) (F' : Nat → Prop), y.lies w' w0.heap.size F' → Touch F w w' → (∀ b, F' b → F b ∨ w.heap.size ≤ b) → St w0 w' (l.set k y) := by
  obtain ⟨h1, F, h2, h3⟩ := S
  have hk := (List.getElem?_eq_some_iff.1 h).1
  refine ⟨F k, h2 k x h, fun w' y F' hy ht hn => ?_⟩
  have hlow := x.low (h2 k x h)
  have hlt : ∀ i b, i < l.length → F i b → b < w.heap.size := by
    intro i b hi hb
    exact ((l[i]).low (h2 i _ (List.getElem?_eq_getElem hi)) b hb).2
  refine ⟨h1.trans (ht.below (fun b hb => (hlow b hb).1) h1.size), fun i => if i = k then F' else F i, ?_, ?_⟩
  · intro i z hi
    by_cases e : i = k
    · subst e
      rw [List.getElem?_set_self hk] at hi
      cases hi
      simpa using hy
    · rw [List.getElem?_set_ne (Ne.symm e)] at hi
      have hil := (List.getElem?_eq_some_iff.1 hi).1
      simp only [e, if_false]
      exact z.touch (h2 i z hi) ht (fun b hb => (hlow b hb).1) (fun b hb hf => h3 i k b hil hk e hb hf)
  · intro i j b hi hj hij hF hG
    simp only [List.length_set] at hi hj
    by_cases e : i = k
    · have e' : j ≠ k := fun e2 => hij (e.trans e2.symm)
      simp only [e, e', if_true, if_false] at hF hG
      rcases hn b hF with hb | hb
      · exact h3 k j b hk hj (Ne.symm e') hb hG
      · have := hlt j b hj hG; omega
    · by_cases e' : j = k
      · simp only [e, e', if_true, if_false] at hF hG
        rcases hn b hG with hb | hb
        · exact h3 i k b hi hk e hF hb
        · have := hlt i b hi hF; omega
      · simp only [e, e', if_false] at hF hG
        exact h3 i j b hi hj hij hF hG
/-- A new thing, made in new blocks. -/
theorem St.push {w0 w w' : World} {l : List Thing} (S : St w0 w l) (hb : Below w.heap.size w w') {y : Thing} {F : Nat → Prop} (hy : y.lies w' w0.heap.size F) (hF : ∀ b, F b → w.heap.size ≤ b) : St w0 w' (l ++ [y]) := by
  have hsz := S.size
  obtain ⟨h1, G, h2, h3⟩ := S
  have hlt : ∀ i b, i < l.length → G i b → b < w.heap.size := by
    intro i b hi hb
    exact ((l[i]).low (h2 i _ (List.getElem?_eq_getElem hi)) b hb).2
  refine ⟨bst h1 hb, fun i => if i = l.length then F else G i, ?_, ?_⟩
  · intro i z hi
    by_cases e : i = l.length
    · subst e
      rw [List.getElem?_append_right (Nat.le_refl _), Nat.sub_self] at hi
      cases hi
      simpa using hy
    · have hil : i < l.length := by
        have := (List.getElem?_eq_some_iff.1 hi).1
        rw [List.length_append, List.length_singleton] at this; omega
      rw [List.getElem?_append_left hil] at hi
      simp only [e, if_false]
      exact z.touch (h2 i z hi) (Touch.ofBelow (M := fun _ => False) hb) (fun _ h => h.elim) (fun _ _ h => h)
  · intro i j b hi hj hij hX hY
    simp only [List.length_append, List.length_singleton] at hi hj
    by_cases e : i = l.length
    · have e' : j ≠ l.length := fun e2 => hij (e.trans e2.symm)
      simp only [e, e', if_true, if_false] at hX hY
      have := hF b hX
      have := hlt j b (by omega) hY
      omega
    · by_cases e' : j = l.length
      · simp only [e, e', if_true, if_false] at hX hY
        have := hF b hY
        have := hlt i b (by omega) hX
        omega
      · simp only [e, e', if_false] at hX hY
        exact h3 i j b (by omega) (by omega) hij hX hY
/-- What lies in no block of ours. -/
theorem St.pushOld {w0 w : World} {l : List Thing} (S : St w0 w l) {y : Thing} (hy : y.lies w w0.heap.size (fun _ => False)) : St w0 w (l ++ [y]) := S.push (Below.refl _ _) hy (fun _ h => h.elim)
/-- Fewer things, or the same in another order. -/
theorem St.pick {w0 w : World} {l m : List Thing} (S : St w0 w l) (f : Nat → Nat) (hf : ∀ i, i < m.length → f i < l.length ∧ m[i]? = l[f i]?) (hi : ∀ i j, i < m.length → j < m.length → f i = f j → i = j) : St w0 w m := by
  obtain ⟨h1, G, h2, h3⟩ := S
  refine ⟨h1, fun i => G (f i), ?_, ?_⟩
  · intro i x hx
    have hil := (List.getElem?_eq_some_iff.1 hx).1
    exact h2 _ x ((hf i hil).2 ▸ hx)
  · intro i j b hil hjl hij
    exact h3 _ _ b (hf i hil).1 (hf j hjl).1 (fun e => hij (hi i j hil hjl e))
theorem St.init {w0 w : World} {l : List Thing} {x : Thing} (S : St w0 w (l ++ [x])) : St w0 w l :=
  S.pick (fun i => i) (fun i hi => ⟨by simp; omega, by rw [List.getElem?_append_left hi]⟩) (fun _ _ _ _ h => h)
theorem St.take {w0 w : World} {l : List Thing} (S : St w0 w l) (n : Nat) : St w0 w (l.take n) :=
  S.pick (fun i => i) (fun i hi => ⟨by simp at hi; omega, by rw [List.getElem?_take_of_lt (by simp at hi; omega)]⟩) (fun _ _ _ _ h => h)

/-- Two things as one. -/
def sepT (x y : Thing) : Thing where
  lies := fun w B F => ∃ G H, x.lies w B G ∧ y.lies w B H ∧ (∀ b, G b → ¬ H b) ∧ ∀ b, F b ↔ (G b ∨ H b)
  touch := fun ⟨G, H, h1, h2, h3, h4⟩ ht hB hM => ⟨G, H, x.touch h1 ht hB (fun b hb => hM b ((h4 b).2 (.inl hb))), y.touch h2 ht hB (fun b hb => hM b ((h4 b).2 (.inr hb))), h3, h4⟩
  low := fun ⟨G, H, h1, h2, h3, h4⟩ b hb => ((h4 b).1 hb).elim (x.low h1 b) (y.low h2 b)
/-- A thing of which something is not told. -/
def exT {α : Type} (f : α → Thing) : Thing where
  lies := fun w B F => ∃ a, (f a).lies w B F
  touch := fun ⟨a, h⟩ ht hB hM => ⟨a, (f a).touch h ht hB hM⟩
  low := fun ⟨a, h⟩ b hb => (f a).low h b hb
/-- A thing of which something holds. -/
def andT (p : Prop) (x : Thing) : Thing where
  lies := fun w B F => p ∧ x.lies w B F
  touch := fun ⟨a, h⟩ ht hB hM => ⟨a, x.touch h ht hB hM⟩
  low := fun ⟨a, h⟩ b hb => x.low h b hb
/-- A block, whole. -/
def cellsT (g : Nat) (T : TypeId) (cs : List Value) : Thing where
  lies := fun w B F => B ≤ g ∧ w.heap[g]? = some (.cells cs.toArray T (0, 0)) ∧ ∀ b, F b ↔ b = g
  touch := fun ⟨h1, h2, h3⟩ ht hB hM => ⟨h1, by rw [ht.block g (Array.getElem?_eq_some_iff.1 h2).1 (hM g ((h3 g).2 rfl))]; exact h2, h3⟩
  low := fun ⟨h1, h2, h3⟩ b hb => by rw [h3 b] at hb; subst hb; exact ⟨h1, (Array.getElem?_eq_some_iff.1 h2).1⟩
/-- Bytes in a slice of the call's own. -/
def bytesT (v : Value) (l : List UInt8) : Thing where
  lies := fun w B F => Own w B v l ∧ (∀ b, F b ↔ v.ownBlock = some b)
  touch := fun h ht _ hM => ⟨h.1.touch ht (fun b hb => hM b ((h.2 b).2 hb)), h.2⟩
  low := fun h b hb => own_lt ((ownB _ _ _ _).2 h.1) b ((h.2 b).1 hb)
/-- A slice of the call's own. -/
def ownT {α : Type} (e : Elt α) (v : Value) (l : List α) : Thing where
  lies := fun w B F => OwnG e w B v l ∧ (∀ b, F b ↔ v.ownBlock = some b)
  touch := fun h ht _ hM => ⟨h.1.touch ht (fun b hb => hM b ((h.2 b).2 hb)), h.2⟩
  low := fun h b hb => own_lt h.1 b ((h.2 b).1 hb)

/-- One thing is told otherwise. -/
theorem St.turn {w0 w : World} {l : List Thing} (S : St w0 w l) (k : Nat) {x y : Thing} (h : l[k]? = some x) (hxy : ∀ F, x.lies w w0.heap.size F → y.lies w w0.heap.size F) : St w0 w (l.set k y) := by
  obtain ⟨F, h1, h2⟩ := S.step k h
  exact h2 w y F (hxy F h1) (Touch.refl _ _) (fun b hb => .inl hb)
theorem St.split {w0 w : World} {l : List Thing} (S : St w0 w l) (k : Nat) {x y : Thing} (h : l[k]? = some (sepT x y)) : St w0 w (l.set k x ++ [y]) := by
  obtain ⟨h1, F, h2, h3⟩ := S
  have hk := (List.getElem?_eq_some_iff.1 h).1
  obtain ⟨G, H, k1, k2, k3, k4⟩ := h2 k _ h
  refine ⟨h1, fun i => if i = l.length then H else if i = k then G else F i, ?_, ?_⟩
  · intro i z hi
    by_cases e : i = l.length
    · subst e
      rw [List.getElem?_append_right (by simp), List.length_set, Nat.sub_self] at hi
      cases hi
      simpa using k2
    · have hil : i < l.length := by
        have := (List.getElem?_eq_some_iff.1 hi).1
        rw [List.length_append, List.length_singleton, List.length_set] at this; omega
      rw [List.getElem?_append_left (by rw [List.length_set]; exact hil)] at hi
      simp only [e, if_false]
      by_cases e2 : i = k
      · subst e2
        rw [List.getElem?_set_self hk] at hi
        cases hi
        simpa using k1
      · rw [List.getElem?_set_ne (Ne.symm e2)] at hi
        simp only [e2, if_false]
        exact h2 i z hi
  · intro i j b hi hj hij hX hY
    simp only [List.length_append, List.length_singleton, List.length_set] at hi hj
    have hkne : k ≠ l.length := by omega
    by_cases e : i = l.length
    · have e' : j ≠ l.length := fun e2 => hij (e.trans e2.symm)
      simp only [e, e', if_true, if_false] at hX hY
      by_cases e2 : j = k
      · simp only [e2, if_true] at hY; exact k3 b hY hX
      · simp only [e2, if_false] at hY; exact h3 k j b hk (by omega) (Ne.symm e2) ((k4 b).2 (.inr hX)) hY
    · by_cases e' : j = l.length
      · simp only [e, e', if_true, if_false] at hX hY
        by_cases e2 : i = k
        · simp only [e2, if_true] at hX; exact k3 b hX hY
        · simp only [e2, if_false] at hX; exact h3 i k b (by omega) hk e2 hX ((k4 b).2 (.inr hY))
      · simp only [e, e', if_false] at hX hY
        by_cases e2 : i = k
        · have e3 : j ≠ k := fun h => hij (e2.trans h.symm)
          simp only [e2, e3, if_true, if_false] at hX hY
          exact h3 k j b hk (by omega) (Ne.symm e3) ((k4 b).2 (.inl hX)) hY
        · by_cases e3 : j = k
          · simp only [e2, e3, if_true, if_false] at hX hY
            exact h3 i k b (by omega) hk e2 hX ((k4 b).2 (.inl hY))
          · simp only [e2, e3, if_false] at hX hY
            exact h3 i j b (by omega) (by omega) hij hX hY
/-- The last thing goes into the one at `k`. -/
theorem St.join {w0 w : World} {l : List Thing} {y : Thing} (S : St w0 w (l ++ [y])) (k : Nat) {x : Thing} (h : l[k]? = some x) : St w0 w (l.set k (sepT x y)) := by
  obtain ⟨h1, F, h2, h3⟩ := S
  have hk := (List.getElem?_eq_some_iff.1 h).1
  have hlast : (l ++ [y])[l.length]? = some y := by simp
  refine ⟨h1, fun i => if i = k then fun b => F k b ∨ F l.length b else F i, ?_, ?_⟩
  · intro i z hi
    by_cases e : i = k
    · subst e
      rw [List.getElem?_set_self hk] at hi
      cases hi
      simp only [if_true]
      exact ⟨F i, F l.length, h2 i x (by rw [List.getElem?_append_left hk]; exact h), h2 _ y hlast, fun b hb hb2 => h3 i l.length b (by simp; omega) (by simp) (by omega) hb hb2, fun b => Iff.rfl⟩
    · rw [List.getElem?_set_ne (Ne.symm e)] at hi
      have hil := (List.getElem?_eq_some_iff.1 hi).1
      simp only [e, if_false]
      exact h2 i z (by rw [List.getElem?_append_left hil]; exact hi)
  · intro i j b hi hj hij hX hY
    simp only [List.length_set] at hi hj
    by_cases e : i = k
    · have e' : j ≠ k := fun e2 => hij (e.trans e2.symm)
      simp only [e, e', if_true, if_false] at hX hY
      rcases hX with hX | hX
      · exact h3 k j b (by simp; omega) (by simp; omega) (Ne.symm e') hX hY
      · exact h3 l.length j b (by simp) (by simp; omega) (by omega) hX hY
    · by_cases e' : j = k
      · simp only [e, e', if_true, if_false] at hX hY
        rcases hY with hY | hY
        · exact h3 i k b (by simp; omega) (by simp; omega) e hX hY
        · exact h3 i l.length b (by simp; omega) (by simp) (by omega) hX hY
      · simp only [e, e', if_false] at hX hY
        exact h3 i j b (by simp; omega) (by simp; omega) hij hX hY

/-- A block's cells, as a walk asks for them. -/
theorem St.cell {w0 w : World} {l : List Thing} (S : St w0 w l) (k : Nat) {g : Nat} {T : TypeId} {cs : List Value} (h : l[k]? = some (cellsT g T cs)) (i : Nat) {v : Value} (hv : cs[i]? = some v) : w.cell? ⟨g, i, none⟩ = some v := by
  obtain ⟨F, h1, h2, h3⟩ := S.head k h
  rw [cell_of_row w g i cs.toArray T (0, 0) h2]
  simpa using hv
theorem St.frozen {w0 w : World} {l : List Thing} (S : St w0 w l) (k : Nat) {g : Nat} {T : TypeId} {cs : List Value} (h : l[k]? = some (cellsT g T cs)) (i : Nat) : w.frozen? ⟨g, i, none⟩ = false := by
  obtain ⟨F, h1, h2, h3⟩ := S.head k h
  exact frozen_of_row w g i _ _ h2
theorem St.ltSize {w0 w : World} {l : List Thing} (S : St w0 w l) (k : Nat) {g : Nat} {T : TypeId} {cs : List Value} (h : l[k]? = some (cellsT g T cs)) : g < w.heap.size := by
  obtain ⟨F, h1, h2, h3⟩ := S.head k h
  exact (Array.getElem?_eq_some_iff.1 h2).1
theorem St.setCell {w0 w : World} {l : List Thing} (S : St w0 w l) (k : Nat) {g : Nat} {T : TypeId} {cs : List Value} (h : l[k]? = some (cellsT g T cs)) (i : Nat) (v : Value) : St w0 (w.setCell ⟨g, i, none⟩ v) (l.set k (cellsT g T (cs.set i v))) := by
  obtain ⟨F, ⟨h1, h2, h3⟩, h4⟩ := S.step k h
  refine h4 _ _ F ⟨h1, ?_, h3⟩ ((Touch.refl F w).setCell (p := ⟨g, i, none⟩) (.inl ((h3 g).2 rfl)) v) (fun b hb => .inl hb)
  have := heap_setCell_same w g i _ _ v h2
  simpa using this
theorem St.newCells {w0 w : World} {l : List Thing} (S : St w0 w l) (T : TypeId) (cs : Array Value) : St w0 (w.alloc (.cells cs T)) (l ++ [cellsT w.heap.size T cs.toList]) := by
  refine S.push ((Below.refl _ _).alloc (Nat.le_refl _) _) (F := fun b => b = w.heap.size) ⟨S.size, ?_, fun b => Iff.rfl⟩ (fun b hb => by subst hb; exact Nat.le_refl _)
  have := heap_alloc_new w (.cells cs T)
  simpa using this
/-- New bytes. -/
theorem St.bytes {w0 w w' : World} {l : List Thing} (S : St w0 w l) {v : Value} {bs : List UInt8} (ho : Own w' w.heap.size v bs) (hb : Below w.heap.size w w') : St w0 w' (l ++ [bytesT v bs]) :=
  S.push hb (y := bytesT v bs) (F := fun b => v.ownBlock = some b) ⟨(ownB _ _ _ _).1 (((ownB _ _ _ _).2 ho).base S.size), fun b => Iff.rfl⟩ (fun b hb => (own_lt ((ownB _ _ _ _).2 ho) b hb).1)
theorem St.own {α : Type} {e : Elt α} {w0 w w' : World} {l : List Thing} (S : St w0 w l) {v : Value} {bs : List α} (ho : OwnG e w' w.heap.size v bs) (hb : Below w.heap.size w w') : St w0 w' (l ++ [ownT e v bs]) :=
  S.push hb (y := ownT e v bs) (F := fun b => v.ownBlock = some b) ⟨ho.base S.size, fun b => Iff.rfl⟩ (fun b hb => (own_lt ho b hb).1)
/-- Bytes of ours, as a slice that is read. -/
theorem St.sl {w0 w : World} {l : List Thing} (S : St w0 w l) (k : Nat) {v : Value} {bs : List UInt8} (h : l[k]? = some (bytesT v bs)) :
    ∃ a cap, v = .slice a bs.length cap ∧ bs.length ≤ cap ∧ cap ≤ maxLen ∧ (a = none → cap = 0) ∧ At w a bs := by
  obtain ⟨F, h1, _⟩ := S.head k h
  obtain ⟨a, cap, h1, h2, h3, h4, h5, _⟩ := OwnG.at eBok ((ownB _ _ _ _).2 h1)
  exact ⟨a, cap, h1, h2, h3, h4, (atB _ _ _).1 h5⟩
theorem St.ownAt {w0 w : World} {l : List Thing} (S : St w0 w l) (k : Nat) {v : Value} {bs : List UInt8} (h : l[k]? = some (bytesT v bs)) : Own w w0.heap.size v bs := by
  obtain ⟨F, h1, _⟩ := S.head k h
  exact h1
theorem St.slA {w0 w : World} {l : List Thing} (S : St w0 w l) (k : Nat) {a : Option Addr} {n c : Nat} {bs : List UInt8} (h : l[k]? = some (bytesT (.slice a n c) bs)) :
    bs.length = n ∧ n ≤ c ∧ c ≤ maxLen ∧ (a = none → c = 0) ∧ At w a bs := by
  obtain ⟨a', c', e, h1, h2, h3, h4⟩ := S.sl k h
  cases e
  exact ⟨rfl, h1, h2, h3, h4⟩
theorem St.at {w0 w : World} {l : List Thing} (S : St w0 w l) (k : Nat) {a : Option Addr} {n c : Nat} {bs : List UInt8} (h : l[k]? = some (bytesT (.slice a n c) bs)) : At w a bs := (S.slA k h).2.2.2.2
theorem Own.written {w : World} {B : Nat} {v : Value} {l : List UInt8} (h : Own w B v l) {n : Nat} (hn : l.length = n) : ∃ a c, v = .slice a n c := by
  subst hn
  obtain ⟨a, c, e, _⟩ := OwnG.at eBok ((ownB _ _ _ _).2 h)
  exact ⟨a, c, e⟩
/-- A literal of bytes. -/
theorem at_lit (w : World) (l : List UInt8) (c : Array Value) (hc : c.toList = l.map bv) : At (w.alloc (.cells c 5)) (some ⟨w.heap.size, 0, none⟩) l := At.mark hc (0, 0)

theorem OwnG.written {α : Type} {e : Elt α} (he : e.Ok) {w : World} {B : Nat} {v : Value} {l : List α} (h : OwnG e w B v l) {n : Nat} (hn : l.length = n) : ∃ a c, v = .slice a n c := by
  subst hn
  obtain ⟨a, c, e, _⟩ := OwnG.at he h
  exact ⟨a, c, e⟩
/-- `append(v, x...)` to what is ours. -/
theorem St.appG {α : Type} {e : Elt α} (he : e.Ok) {w0 w : World} {r : List Thing} (S : St w0 w r) (k : Nat) {v : Value} {l : List α} (hk : r[k]? = some (ownT e v l)) (ad : Option Addr) (m : List α) (n cb : Nat) (hn : m.length = n) (hat : AtG e w ad m)
    (N : Nat) (hN : l.length + n = N) (hlen : N * e.byt ≤ 140737488355328) (h63 : N ≤ maxLen) :
    ∃ v' w', (Builtin.append_ #[e.T, e.T] e.T #[v, .slice ad n cb]).run Tryd.prog w = .ok v' w' ∧ (∃ a c, v' = .slice a N c) ∧ St w0 w' (r.set k (ownT e v' (l ++ m))) := by
  subst hN
  obtain ⟨F, ⟨h1, h2⟩, h3⟩ := S.step k hk
  obtain ⟨v', w', hr, ha⟩ := runG_full he w w0.heap.size v l h1 ad m n cb hn hat hlen h63 S.size
  exact ⟨v', w', hr, ha.own.written he (by simp [hn]), h3 w' _ (fun b => v'.ownBlock = some b) ⟨ha.own, fun b => Iff.rfl⟩ (ha.touch.mono fun b hb => (h2 b).2 hb) (fun b hb => (ha.blk b hb).elim (fun h => .inl ((h2 b).2 h)) .inr)⟩
theorem St.appG1 {α : Type} {e : Elt α} (he : e.Ok) {w0 w : World} {r : List Thing} (S : St w0 w r) (g : Nat) (hg : g = w.heap.size) (k : Nat) {v : Value} {l : List α} (hk : r[k]? = some (ownT e v l)) (x : α) (c : Array Value) (hc : c.toList = e.enc x)
    (N : Nat) (hN : l.length + 1 = N) (hlen : N * e.byt ≤ 140737488355328) (h63 : N ≤ maxLen) :
    ∃ v' w', (Builtin.append_ #[e.T, e.T] e.T #[v, .slice (some ⟨g, 0, none⟩) 1 1]).run Tryd.prog (w.alloc (.cells c e.E)) = .ok v' w' ∧ (∃ a c, v' = .slice a N c) ∧ St w0 w' (r.set k (ownT e v' (l ++ [x]))) := by
  subst hN
  obtain ⟨F, ⟨h1, h2⟩, h3⟩ := S.step k hk
  obtain ⟨v', w', hr, ha⟩ := runG_full1 he w g hg w0.heap.size v l h1 x c hc hlen h63 (by rw [hg]; exact S.size)
  exact ⟨v', w', hr, ha.own.written he (by simp), h3 w' _ (fun b => v'.ownBlock = some b) ⟨ha.own, fun b => Iff.rfl⟩ (ha.touch.mono fun b hb => (h2 b).2 hb) (fun b hb => (ha.blk b hb).elim (fun h => .inl ((h2 b).2 h)) .inr)⟩
theorem St.app {w0 w : World} {r : List Thing} (S : St w0 w r) (k : Nat) {v : Value} {l : List UInt8} (hk : r[k]? = some (bytesT v l)) (ad : Option Addr) (m : List UInt8) (n cb : Nat) (hn : m.length = n) (hat : At w ad m) (N : Nat) (hN : l.length + n = N)
    (hlen : N ≤ 140737488355328) :
    ∃ v' w', (Builtin.append_ #[70, 70] 70 #[v, .slice ad n cb]).run Tryd.prog w = .ok v' w' ∧ (∃ a c, v' = .slice a N c) ∧ St w0 w' (r.set k (bytesT v' (l ++ m))) := by
  subst hN
  obtain ⟨F, ⟨h1, h2⟩, h3⟩ := S.step k hk
  obtain ⟨v', w', hr, ha⟩ := runG_full eBok w w0.heap.size v l ((ownB _ _ _ _).2 h1) ad m n cb hn ((atB _ _ _).2 hat) (by show (l.length + n) * 1 ≤ _; omega) (by unfold maxLen; omega) S.size
  exact ⟨v', w', hr, ((ownB _ _ _ _).1 ha.own).written (by simp [hn]), h3 w' _ (fun b => v'.ownBlock = some b) ⟨(ownB _ _ _ _).1 ha.own, fun b => Iff.rfl⟩ (ha.touch.mono fun b hb => (h2 b).2 hb) (fun b hb => (ha.blk b hb).elim (fun h => .inl ((h2 b).2 h)) .inr)⟩
theorem St.app1 {w0 w : World} {r : List Thing} (S : St w0 w r) (g : Nat) (hg : g = w.heap.size) (k : Nat) {v : Value} {l : List UInt8} (hk : r[k]? = some (bytesT v l)) (x : UInt8) (c : Array Value) (hc : c.toList = [bv x]) (N : Nat) (hN : l.length + 1 = N)
    (hlen : N ≤ 140737488355328) :
    ∃ v' w', (Builtin.append_ #[70, 70] 70 #[v, .slice (some ⟨g, 0, none⟩) 1 1]).run Tryd.prog (w.alloc (.cells c 5)) = .ok v' w' ∧ (∃ a c, v' = .slice a N c) ∧ St w0 w' (r.set k (bytesT v' (l ++ [x]))) := by
  subst hN
  obtain ⟨F, ⟨h1, h2⟩, h3⟩ := S.step k hk
  obtain ⟨v', w', hr, ha⟩ := runG_full1 eBok w g hg w0.heap.size v l ((ownB _ _ _ _).2 h1) x c hc (by show (l.length + 1) * 1 ≤ _; omega) (by unfold maxLen; omega) (by rw [hg]; exact S.size)
  exact ⟨v', w', hr, ((ownB _ _ _ _).1 ha.own).written (by simp), h3 w' _ (fun b => v'.ownBlock = some b) ⟨(ownB _ _ _ _).1 ha.own, fun b => Iff.rfl⟩ (ha.touch.mono fun b hb => (h2 b).2 hb) (fun b hb => (ha.blk b hb).elim (fun h => .inl ((h2 b).2 h)) .inr)⟩
theorem St.written {w0 w : World} {r : List Thing} (S : St w0 w r) (k : Nat) {v : Value} {l : List UInt8} (hk : r[k]? = some (bytesT v l)) {n : Nat} (hn : l.length = n) : ∃ a c, v = .slice a n c := (S.ownAt k hk).written hn
theorem St.writtenG {α : Type} {e : Elt α} (he : e.Ok) {w0 w : World} {r : List Thing} (S : St w0 w r) (k : Nat) {v : Value} {l : List α} (hk : r[k]? = some (ownT e v l)) {n : Nat} (hn : l.length = n) : ∃ a c, v = .slice a n c := by
  obtain ⟨F, h, _⟩ := S.head k hk
  exact h.written he hn
theorem St.slG {α : Type} {e : Elt α} (he : e.Ok) {w0 w : World} {r : List Thing} (S : St w0 w r) (k : Nat) {a : Option Addr} {n c : Nat} {l : List α} (hk : r[k]? = some (ownT e (.slice a n c) l)) :
    l.length = n ∧ n ≤ c ∧ c ≤ maxLen ∧ (a = none → c = 0) ∧ AtG e w a l := by
  obtain ⟨F, h, _⟩ := S.head k hk
  obtain ⟨a', c', e', h1, h2, h3, h4, _⟩ := OwnG.at he h
  cases e'
  exact ⟨rfl, h1, h2, h3, h4⟩
theorem St.nil {w0 w : World} {r : List Thing} (S : St w0 w r) : St w0 w (r ++ [bytesT (.slice none 0 0) []]) := S.bytes (Own.nil _ _) (Below.refl _ _)
theorem St.nilG {α : Type} (e : Elt α) {w0 w : World} {r : List Thing} (S : St w0 w r) : St w0 w (r ++ [ownT e (.slice none 0 0) []]) := S.own (OwnG.nil _ _) (Below.refl _ _)

/-- What an old slice of bytes is, in whatever world that we come to. -/
theorem St.old {w0 w : World} {l : List Thing} (S : St w0 w l) {a : Option Addr} {bs : List UInt8} (h : At w0 a bs) : At w a bs := h.all S.below
theorem St.fin {w0 w : World} {l : List Thing} (S : St w0 w l) : Below w0.heap.size w0 w := S.below

theorem St.conv {w0 w : World} {l m : List Thing} (S : St w0 w l) (h : l = m) : St w0 w m := h ▸ S
/-- The last one first. -/
theorem St.rot {w0 w : World} {l : List Thing} {y : Thing} (S : St w0 w (l ++ [y])) : St w0 w (y :: l) :=
  S.pick (fun i => if i = 0 then l.length else i - 1) (fun i hi => by
    simp only [List.length_cons] at hi
    by_cases e : i = 0
    · subst e; simp
    · obtain ⟨j, rfl⟩ := Nat.exists_eq_succ_of_ne_zero e
      simp only [e, if_false, List.length_append, List.length_singleton, List.getElem?_cons_succ, Nat.succ_eq_add_one, Nat.add_sub_cancel]
      exact ⟨by omega, by rw [List.getElem?_append_left (by omega)]⟩) (fun i j hi hj h => by
    simp only [List.length_cons] at hi hj
    by_cases e : i = 0 <;> by_cases e' : j = 0 <;> simp only [e, e', if_true, if_false] at h <;> omega)
theorem St.unrot {w0 w : World} {l : List Thing} {y : Thing} (S : St w0 w (y :: l)) : St w0 w (l ++ [y]) :=
  S.pick (fun i => if i = l.length then 0 else i + 1) (fun i hi => by
    simp only [List.length_append, List.length_singleton] at hi
    by_cases e : i = l.length
    · subst e; simp
    · simp only [e, if_false, List.length_cons]
      exact ⟨by omega, by rw [List.getElem?_append_left (by omega)]; rfl⟩) (fun i j hi hj h => by
    simp only [List.length_append, List.length_singleton] at hi hj
    by_cases e : i = l.length <;> by_cases e' : j = l.length <;> simp only [e, e', if_true, if_false] at h <;> omega)
theorem St.tail {w0 w : World} {l : List Thing} {y : Thing} (S : St w0 w (y :: l)) : St w0 w l :=
  S.pick (fun i => i + 1) (fun i hi => ⟨by simp; omega, by simp⟩) (fun i j _ _ h => by omega)
/-- The thing at `k` first. -/
theorem St.front {w0 w : World} {l : List Thing} (S : St w0 w l) (k : Nat) {x : Thing} (h : l[k]? = some x) : St w0 w (x :: l.eraseIdx k) := by
  have hk := (List.getElem?_eq_some_iff.1 h).1
  have hlen : (l.eraseIdx k).length + 1 = l.length := by rw [List.length_eraseIdx, if_pos hk]; omega
  refine S.pick (fun i => if i = 0 then k else if i ≤ k then i - 1 else i) (fun i hi => ?_) (fun i j hi hj h => ?_)
  · simp only [List.length_cons] at hi
    by_cases e : i = 0
    · subst e; simp only [if_true, List.getElem?_cons_zero]; exact ⟨hk, h.symm⟩
    · obtain ⟨j, rfl⟩ := Nat.exists_eq_succ_of_ne_zero e
      simp only [e, if_false, List.getElem?_cons_succ, Nat.succ_eq_add_one, List.getElem?_eraseIdx]
      by_cases h2 : j + 1 ≤ k
      · rw [if_pos h2, if_pos (by omega)]; exact ⟨by omega, by congr 1⟩
      · rw [if_neg h2, if_neg (by omega)]; exact ⟨by omega, rfl⟩
  · simp only [List.length_cons] at hi hj
    split at h <;> split at h <;> (try split at h) <;> (try split at h) <;> omega
theorem St.back {w0 w : World} {l : List Thing} {k : Nat} (hk : k < l.length) {y : Thing} (S : St w0 w (y :: l.eraseIdx k)) : St w0 w (l.set k y) := by
  have hlen : (l.eraseIdx k).length + 1 = l.length := by rw [List.length_eraseIdx, if_pos hk]; omega
  refine S.pick (fun i => if i = k then 0 else if i < k then i + 1 else i) (fun i hi => ?_) (fun i j hi hj h => ?_)
  · simp only [List.length_set] at hi
    by_cases e : i = k
    · subst e; rw [List.getElem?_set_self hk]; simp
    · rw [List.getElem?_set_ne (Ne.symm e)]
      simp only [e, if_false, List.length_cons]
      by_cases h2 : i < k
      · rw [if_pos h2, List.getElem?_cons_succ, List.getElem?_eraseIdx, if_pos h2]; exact ⟨by omega, rfl⟩
      · rw [if_neg h2]
        obtain ⟨j, rfl⟩ := Nat.exists_eq_succ_of_ne_zero (show i ≠ 0 by omega)
        rw [Nat.succ_eq_add_one, List.getElem?_cons_succ, List.getElem?_eraseIdx, if_neg (by omega)]; exact ⟨by omega, rfl⟩
  · simp only [List.length_set] at hi hj
    split at h <;> split at h <;> (try split at h) <;> (try split at h) <;> omega
theorem St.swap {w0 w : World} {l : List Thing} {x y : Thing} (S : St w0 w (x :: y :: l)) : St w0 w (y :: x :: l) := S.front 1 rfl
theorem St.splitF {w0 w : World} {l : List Thing} {x y : Thing} (S : St w0 w (sepT x y :: l)) : St w0 w (x :: y :: l) := (St.rot (l := x :: l) (S.split 0 rfl)).swap
theorem St.joinF {w0 w : World} {l : List Thing} {x y : Thing} (S : St w0 w (x :: y :: l)) : St w0 w (sepT x y :: l) := St.join (l := x :: l) S.swap.unrot 0 rfl
theorem St.exF {α : Type} {w0 w : World} {l : List Thing} {f : α → Thing} (S : St w0 w (exT f :: l)) : ∃ a, St w0 w (f a :: l) := by
  obtain ⟨F, ⟨a, h⟩, k⟩ := S.step 0 rfl
  exact ⟨a, k w (f a) F h (Touch.refl _ _) (fun b hb => .inl hb)⟩
theorem St.exI {α : Type} {w0 w : World} {l : List Thing} {f : α → Thing} (a : α) (S : St w0 w (f a :: l)) : St w0 w (exT f :: l) := S.turn 0 rfl (y := exT f) (fun F h => ⟨a, h⟩)
theorem St.andF {p : Prop} {w0 w : World} {l : List Thing} {x : Thing} (S : St w0 w (andT p x :: l)) : p ∧ St w0 w (x :: l) := by
  obtain ⟨F, ⟨a, h⟩, k⟩ := S.step 0 rfl
  exact ⟨a, k w x F h (Touch.refl _ _) (fun b hb => .inl hb)⟩
theorem St.andI {p : Prop} {w0 w : World} {l : List Thing} {x : Thing} (hp : p) (S : St w0 w (x :: l)) : St w0 w (andT p x :: l) := S.turn 0 rfl (y := andT p x) (fun F h => ⟨hp, h⟩)
theorem St.lift {w0 w w' : World} {l : List Thing} {k : Nat} {x y : Thing} (h : l[k]? = some x) (S : St w0 w' (y :: l.eraseIdx k)) : St w0 w' (l.set k y) := S.back (List.getElem?_eq_some_iff.1 h).1

/-- The bytes `b` behind `a` are there, whatever is done to other things than `l`. -/
def Reads (w0 : World) (l : List Thing) (a : Option Addr) (b : List UInt8) : Prop := ∀ (w : World) (pre : List Thing), St w0 w (pre ++ l) → At w a b
theorem Reads.old {w0 : World} {l : List Thing} {a : Option Addr} {b : List UInt8} (h : At w0 a b) : Reads w0 l a b := fun _ _ S => S.old h
theorem Reads.at {w0 : World} {l : List Thing} (j : Nat) {a : Option Addr} {n c : Nat} {b : List UInt8} (h : l[j]? = some (bytesT (.slice a n c) b)) : Reads w0 l a b := fun _ pre S => S.at (pre.length + j) (by rw [List.getElem?_append_right (by omega), Nat.add_sub_cancel_left]; exact h)

end Go.Proofs.YtjfbmgndekfglaaDoor

namespace Go.Proofs.YtjfbmgndekfglaaDoor
set_option linter.unusedVariables false
set_option linter.unusedSimpArgs false
open Go.RowKit

section
variable {w0 w : World} {r : List Thing} {p : Value} {d : DSt}
end

end Go.Proofs.YtjfbmgndekfglaaDoor

namespace Go.Proofs.YtjfbmgndekfglaaDoor
set_option linter.unusedVariables false
set_option linter.unusedSimpArgs false
open Go.RowKit

theorem splice_nil {l : List UInt8} {k : Nat} : splice l k [] = l := by simp [splice]
theorem splice_parts {p x r a : List UInt8} (h : x.length = a.length) : splice (p ++ (x ++ r)) p.length a = p ++ (a ++ r) := by
  unfold splice
  rw [List.take_left' rfl, ← List.drop_drop, List.drop_left' rfl, List.drop_left' h]
theorem parts {l : List UInt8} {k n : Nat} (h : k + n ≤ l.length) : ∃ p x r, l = p ++ (x ++ r) ∧ p.length = k ∧ x.length = n :=
  ⟨l.take k, (l.drop k).take n, (l.drop k).drop n, by rw [List.take_append_drop, List.take_append_drop], by rw [List.length_take]; omega, by rw [List.length_take, List.length_drop]; omega⟩
theorem splice_app {l a b : List UInt8} {k : Nat} (h : k + (a.length + b.length) ≤ l.length) : splice l k (a ++ b) = splice (splice l k a) (k + a.length) b := by
  obtain ⟨p, z, r, rfl, rfl, hz⟩ := parts h
  obtain ⟨x, y, e, rfl, hx, hy⟩ := parts (l := z) (k := a.length) (n := b.length) (by omega)
  have he : e = [] := by
    have : (x ++ (y ++ e)).length = a.length + b.length := hz
    rw [List.length_append, List.length_append] at this
    exact List.eq_nil_of_length_eq_zero (by omega)
  subst he
  rw [List.append_nil]
  rw [splice_parts (by rw [List.length_append, List.length_append]; omega), List.append_assoc a b r, List.append_assoc x y r, splice_parts hx]
  have e2 : p ++ (a ++ (y ++ r)) = (p ++ a) ++ (y ++ r) := by rw [List.append_assoc]
  rw [e2, show p.length + a.length = (p ++ a).length by rw [List.length_append], splice_parts hy]
  simp
theorem split_bytes {l a b : List UInt8} {k : Nat} (h : k + (a.length + b.length) ≤ l.length) : dAll l [(k, a ++ b)] = dAll l [(k, a), (k + a.length, b)] := by
  simp only [dAll]; exact splice_app h
theorem split_done {l a b : List UInt8} {k : Nat} (keep : Int) (h : k + (a.length + b.length) ≤ l.length) : dDone l keep [(k, a ++ b)] = dDone l keep [(k, a), (k + a.length, b)] := by
  simp only [dDone, List.length_append]
  by_cases h1 : keep ≤ a.length
  · have e1 : (min (keep - max 0 (min keep (a.length : Int))) (b.length : Int)).toNat = 0 := by omega
    have e2 : (min keep ((a.length + b.length : Nat) : Int)).toNat = (min keep (a.length : Int)).toNat := by omega
    rw [e1, List.take_zero, splice_nil, e2, List.take_append_of_le_length (by omega)]
  · have e1 : (min (keep - max 0 (min keep (a.length : Int))) (b.length : Int)).toNat = (min (keep - a.length) (b.length : Int)).toNat := by omega
    have e2 : (min keep ((a.length + b.length : Nat) : Int)).toNat = a.length + (min (keep - a.length) (b.length : Int)).toNat := by omega
    have e3 : (min keep (a.length : Int)).toNat = a.length := by omega
    rw [e1, e2, e3, List.take_length, List.take_length_add_append]
    exact splice_app (by rw [List.length_take]; omega)

theorem dDone_all : ∀ (ws : List (Nat × List UInt8)) (l : List UInt8) (keep : Int), (dWaits ws : Int) ≤ keep → dDone l keep ws = dAll l ws
  | [], l, keep, _ => rfl
  | x :: ws, l, keep, h => by
    rw [dWaits] at h
    rw [dDone, dAll, show (min keep (x.2.length : Int)).toNat = x.2.length by omega, List.take_length]
    exact dDone_all ws _ _ (by omega)
theorem dDone_none : ∀ (ws : List (Nat × List UInt8)) (l : List UInt8) (keep : Int), keep ≤ 0 → dDone l keep ws = l
  | [], l, keep, _ => rfl
  | x :: ws, l, keep, h => by
    rw [dDone, show (min keep (x.2.length : Int)).toNat = 0 by omega, List.take_zero, splice_nil]
    exact dDone_none ws _ _ (by omega)
theorem DSt.write_ok {d : DSt} {a : Int} {b : List UInt8} (h : d.can a b.length = 0) : d.write a b = { d with waits := d.waits ++ [(a.toNat, b)] } := if_pos h
theorem DSt.write_bad {d : DSt} {a : Int} {b : List UInt8} (h : d.can a b.length ≠ 0) : d.write a b = d := if_neg h
theorem DSt.write_lasts (d : DSt) (a : Int) (b : List UInt8) : (d.write a b).lasts = d.lasts := by unfold DSt.write; split <;> rfl
theorem DSt.write_syncs (d : DSt) (a : Int) (b : List UInt8) : (d.write a b).syncs = d.syncs := by unfold DSt.write; split <;> rfl
theorem DSt.write_waits (d : DSt) (a : Int) (b : List UInt8) : (d.write a b).waits.length ≤ d.waits.length + 1 := by unfold DSt.write; split <;> simp
theorem DSt.can_write (d : DSt) (a f : Int) (b : List UInt8) (n : Nat) : (d.write a b).can f n = d.can f n := by unfold DSt.can; rw [DSt.write_lasts]
theorem DSt.sync_bytes (d : DSt) : d.sync.bytes = d.bytes := by
  show dAll (dDone d.lasts (dWaits d.waits) d.waits) [] = _
  rw [dDone_all _ _ _ (Int.le_refl _)]; rfl
theorem DSt.write_bytes (d : DSt) (a : Int) (b : List UInt8) : (d.write a b).bytes = if d.can a b.length = 0 then splice d.bytes a.toNat b else d.bytes := by
  split
  · rename_i h
    rw [DSt.write_ok h]
    exact dAll_snoc _ _ _
  · rename_i h
    rw [DSt.write_bad h]
theorem DSt.can_zero {d : DSt} {a : Int} {n : Nat} (h : d.can a n = 0) : 0 ≤ a ∧ a.toNat + n ≤ d.lasts.length := by
  unfold DSt.can at h
  split at h
  · cases h
  · split at h
    · cases h
    · omega
theorem splice_read {l b : List UInt8} {k : Nat} (h : k + b.length ≤ l.length) : ((splice l k b).drop k).take b.length = b := by
  obtain ⟨p, x, r, rfl, rfl, hx⟩ := parts h
  rw [splice_parts hx, List.drop_left' rfl, List.take_left' rfl]

def DSt.code (d : DSt) (a : Int) (n : Nat) : Int := if a < 0 then 1 else if (d.lasts.length : Int) < a + n then 3 else 0
theorem DSt.can_code (d : DSt) (a : Int) (n : Nat) : d.can a n = d.code a n := by
  unfold DSt.can DSt.code
  by_cases h : a < 0
  · rw [if_pos h, if_pos h]
  · rw [if_neg h, if_neg h]
    by_cases h2 : (d.lasts.length : Int) < a + n
    · rw [if_pos h2, if_pos (by omega)]
    · rw [if_neg h2, if_neg (by omega)]

end Go.Proofs.YtjfbmgndekfglaaDoor

namespace Go.Proofs.YtjfbmgndekfglaaDoor
set_option linter.unusedVariables false
set_option linter.unusedSimpArgs false
open Go.RowKit

section
variable {α : Type} {e : Elt α}
/-- A slice of ours; `refs`: the bytes that an element leads to. -/
def rowsT (e : Elt α) (refs : α → List (Option Addr × List UInt8)) (v : Value) (l : List α) : Thing where
  lies := fun w B F => OwnG e w B v l ∧ (∀ x ∈ l, ∀ r ∈ refs x, At w r.1 r.2 ∧ ∀ y, r.1 = some y → F y.block ∧ v.ownBlock ≠ some y.block) ∧ (∀ b, v.ownBlock = some b → F b) ∧ ∀ b, F b → B ≤ b ∧ b < w.heap.size
  touch := fun ⟨h1, h2, h3, h4⟩ ht _ hM => ⟨h1.touch ht (fun b hb => hM b (h3 b hb)), fun x hx r hr => ⟨(h2 x hx r hr).1.touch ht (fun y hy => hM _ ((h2 x hx r hr).2 y hy).1), (h2 x hx r hr).2⟩, h3, fun b hb => ⟨(h4 b hb).1, Nat.lt_of_lt_of_le (h4 b hb).2 ht.size⟩⟩
  low := fun h => h.2.2.2
variable {refs : α → List (Option Addr × List UInt8)} {w0 w : World} {tl : List Thing} {v : Value} {l : List α}
theorem St.rowsNil (S : St w0 w tl) : St w0 w (rowsT e refs (.slice none 0 0) [] :: tl) :=
  (S.push (Below.refl _ _) (y := rowsT e refs (.slice none 0 0) []) (F := fun _ => False) ⟨OwnG.nil _ _, by simp, fun b hb => by simp [Value.ownBlock] at hb, fun _ h => h.elim⟩ (fun _ h => h.elim)).rot
/-- `append(v, x)`, x leading to bytes of ours, which go into the slice. -/
theorem St.rowsApp (he : e.Ok) {a : Option Addr} {n c : Nat} {bs : List UInt8} (S : St w0 w (rowsT e refs v l :: bytesT (.slice a n c) bs :: tl)) (x : α) (hx : refs x = [(a, bs)]) (g : Nat) (hg : g = w.heap.size) (cs : Array Value) (hc : cs.toList = e.enc x)
    (N : Nat) (hN : l.length + 1 = N) (hlen : N * e.byt ≤ 140737488355328) (h63 : N ≤ maxLen) :
    ∃ v' w', (Builtin.append_ #[e.T, e.T] e.T #[v, .slice (some ⟨g, 0, none⟩) 1 1]).run Tryd.prog (w.alloc (.cells cs e.E)) = .ok v' w' ∧ (∃ a c, v' = .slice a N c) ∧ St w0 w' (rowsT e refs v' (l ++ [x]) :: tl) := by
  subst hN
  obtain ⟨F, ⟨G, H, ⟨h1, h2, h3, h4⟩, ⟨k1, k2⟩, hd, hF⟩, hs⟩ := S.joinF.step 0 rfl
  have hBs := S.size
  obtain ⟨v', w', hr, ha⟩ := runG_full1 he w g hg w0.heap.size v l h1 x cs hc hlen h63 (by rw [hg]; exact hBs)
  have hat : At w a bs ∧ ∀ y, a = some y → H y.block := by
    obtain ⟨a', c', e', _, _, _, hb, ho⟩ := OwnG.at eBok ((ownB _ _ _ _).2 k1)
    cases e'
    exact ⟨(atB _ _ _).1 hb, fun y hy => (k2 _).2 (ho y hy)⟩
  have kl := own_lt ((ownB _ _ _ _).2 k1)
  have ht : Touch F w w' := ha.touch.mono fun b hb => (hF b).2 (.inl (h3 b hb))
  refine ⟨v', w', hr, ha.own.written he (by simp), ?_⟩
  refine hs w' (rowsT e refs v' (l ++ [x])) (fun b => F b ∨ v'.ownBlock = some b) ⟨ha.own, ?_, fun b hb => .inr hb, ?_⟩ ht ?_
  · have hne : ∀ b, b < w.heap.size → v.ownBlock ≠ some b → v'.ownBlock ≠ some b := by
      intro b hb h hv
      rcases ha.blk b hv with h5 | h5
      · exact h h5
      · omega
    intro z hz r hr
    rcases List.mem_append.1 hz with hz | hz
    · obtain ⟨q1, q2⟩ := h2 z hz r hr
      exact ⟨q1.touch ha.touch (fun y hy => (q2 y hy).2), fun y hy => ⟨.inl ((hF _).2 (.inl (q2 y hy).1)), hne _ (h4 _ (q2 y hy).1).2 (q2 y hy).2⟩⟩
    · simp at hz
      subst hz
      rw [hx] at hr
      simp at hr
      subst hr
      refine ⟨hat.1.touch ha.touch (fun y hy hv => hd _ (h3 _ hv) (hat.2 y hy)), fun y hy => ⟨.inl ((hF _).2 (.inr (hat.2 y hy))), hne _ (kl _ ((k2 _).1 (hat.2 y hy))).2 (fun hv => hd _ (h3 _ hv) (hat.2 y hy))⟩⟩
  · rintro b (hb | hb)
    · have := (hF b).1 hb
      rcases this with hb | hb
      · exact ⟨(h4 b hb).1, Nat.lt_of_lt_of_le (h4 b hb).2 ht.size⟩
      · exact ⟨(kl b ((k2 b).1 hb)).1, Nat.lt_of_lt_of_le (kl b ((k2 b).1 hb)).2 ht.size⟩
    · exact own_lt ha.own b hb
  · rintro b (hb | hb)
    · exact .inl hb
    · rcases ha.blk b hb with h | h
      · exact .inl ((hF b).2 (.inl (h3 b h)))
      · exact .inr h
theorem St.rowsWritten (he : e.Ok) (S : St w0 w tl) (k : Nat) (h : tl[k]? = some (rowsT e refs v l)) {n : Nat} (hn : l.length = n) : ∃ a c, v = .slice a n c := by
  obtain ⟨F, h1, _⟩ := S.head k h
  exact h1.written he hn
theorem St.rowsAt (he : e.Ok) (S : St w0 w tl) (k : Nat) {a : Option Addr} {n c : Nat} (h : tl[k]? = some (rowsT e refs (.slice a n c) l)) :
    l.length = n ∧ n ≤ c ∧ c ≤ maxLen ∧ (a = none → c = 0) ∧ AtG e w a l ∧ ∀ x ∈ l, ∀ r ∈ refs x, At w r.1 r.2 := by
  obtain ⟨F, h1, h2, _⟩ := S.head k h
  obtain ⟨a', c', e', q1, q2, q3, q4, _⟩ := OwnG.at he h1
  cases e'
  exact ⟨rfl, q1, q2, q3, q4, fun x hx r hr => (h2 x hx r hr).1⟩
end

/-- A slice of bytes as an element. -/
structure BS where
  a : Option Addr
  n : Nat
  c : Nat
  l : List UInt8
structure BS.Ok (w : World) (x : BS) : Prop where
  len : x.l.length = x.n
  le : x.n ≤ x.c
  nil : x.a = none → x.c = 0
  at_ : At w x.a x.l
def bsRefs (x : BS) : List (Option Addr × List UInt8) := [(x.a, x.l)]
end Go.Proofs.YtjfbmgndekfglaaDoor
