/- Slices of whatever elements, as lists: what all walks share. -/
import Derived.Test.YtkkailggpfmgaaaBase
namespace Go.Proofs.Ytkkailggpfmgaaa
set_option linter.unusedVariables false
set_option linter.unusedSimpArgs false
open Go.RowKit

/-- How an element lies in memory: the slice's type, the element's, its cells, its bytes, its zero value, the cells of a datum. -/
structure Elt (α : Type) where
  T : TypeId
  E : TypeId
  s : Nat
  byt : Nat
  z : Value
  enc : α → List Value
structure Elt.Ok {α : Type} (e : Elt α) : Prop where
  len : ∀ x, (e.enc x).length = e.s
  one : ∀ x, ∀ u ∈ e.enc x, u.oneCell' = true
  pos : 0 < e.s
  under : Try.prog.underlying e.T = some (.slice e.E)
  info : (Try.prog.info? e.E).map (fun i => (i.zero, i.size, i.bytes)) = some (some e.z, e.s, e.byt)
  zc : e.z.cells.size = e.s

section
variable {α : Type} {e : Elt α}

theorem flat_get (he : e.Ok) : ∀ (l : List α) (k j : Nat) (hk : k < l.length), j < e.s → (l.flatMap e.enc)[k * e.s + j]? = (e.enc l[k])[j]?
  | [], k, j, hk, _ => by simp at hk
  | x :: l, 0, j, hk, hj => by
    rw [List.flatMap_cons, Nat.zero_mul, Nat.zero_add, List.getElem?_append_left (by rw [he.len]; exact hj)]; rfl
  | x :: l, k + 1, j, hk, hj => by
    rw [List.flatMap_cons, List.getElem?_append_right (by rw [he.len, Nat.add_mul]; omega), he.len, show (k + 1) * e.s + j - e.s = k * e.s + j by rw [Nat.add_mul]; omega]
    rw [flat_get he l k j (by simpa using hk) hj]; rfl
theorem flat_len (he : e.Ok) : ∀ (l : List α), (l.flatMap e.enc).length = l.length * e.s
  | [] => by simp
  | x :: l => by rw [List.flatMap_cons, List.length_append, he.len, flat_len he l, List.length_cons, Nat.add_mul]; omega
theorem flat_split {s p : Nat} (hs : 0 < s) : ∃ k j, p = k * s + j ∧ j < s := ⟨p / s, p % s, (Nat.div_add_mod' p s).symm, Nat.mod_lt _ hs⟩

/-- The elements `l` stand behind the head `a`. -/
def AtG (e : Elt α) (w : World) (a : Option Addr) (l : List α) : Prop :=
  ∀ k (h : k < l.length), a.isSome = true ∧ ∀ j, j < e.s → w.cell? (adr a (k * e.s + j)) = (e.enc l[k])[j]?

theorem AtG.ok {w : World} {a : Option Addr} {l : List α} (h : AtG e w a l) (hl : 0 < l.length) : a.isSome = true := (h 0 hl).1
theorem AtG.nil (w : World) (a : Option Addr) : AtG e w a [] := by intro k hk; simp at hk
theorem AtG.take {w : World} {a : Option Addr} {l : List α} (h : AtG e w a l) (n : Nat) : AtG e w a (l.take n) := by
  intro k hk
  obtain ⟨h1, h2⟩ := h k (by simp at hk; omega)
  exact ⟨h1, by intro j hj; rw [h2 j hj]; simp⟩
theorem AtG.drop {w : World} {a : Option Addr} {l : List α} (h : AtG e w a l) (n : Nat) : AtG e w (a.map (·.add (n * e.s))) (l.drop n) := by
  intro k hk
  simp at hk
  obtain ⟨h1, h2⟩ := h (n + k) (by omega)
  refine ⟨by simpa using h1, ?_⟩
  intro j hj
  rw [adr_add, if_pos h1, show n * e.s + (k * e.s + j) = (n + k) * e.s + j by rw [Nat.add_mul]; omega, h2 j hj]; simp
def cutG (e : Elt α) (a : Option Addr) (lo cap : Nat) : Option Addr := if cap = lo then a else a.map (·.add (lo * e.s))
theorem AtG.cut {w : World} {a : Option Addr} {l : List α} (h : AtG e w a l) (lo n cap : Nat) (hm : n ≤ cap - lo) : AtG e w (cutG e a lo cap) ((l.drop lo).take n) := by
  unfold cutG
  split
  · rename_i e
    rw [show n = 0 by omega]
    exact AtG.nil _ _
  · exact (h.drop lo).take n
theorem AtG.below {w w' : World} {a : Option Addr} {l : List α} (h : AtG e w a l) {B : Nat} (hb : Below B w w') (ha : ∀ x, a = some x → x.block < B) : AtG e w' a l := by
  intro k hk
  obtain ⟨h1, h2⟩ := h k hk
  refine ⟨h1, fun j hj => ?_⟩
  obtain ⟨x, rfl⟩ := Option.isSome_iff_exists.1 h1
  have ee : (adr (some x) (k * e.s + j)).block = x.block := by simp [adr]; unfold Addr.add; split <;> rfl
  rw [← h2 j hj]
  exact hb.cell (by rw [ee]; exact ha x rfl)
theorem AtG.lt {w : World} {a : Option Addr} {l : List α} (he : e.Ok) (h : AtG e w a l) (hl : 0 < l.length) : ∀ x, a = some x → x.block < w.heap.size := by
  rintro x rfl
  have h2 := (h 0 hl).2 0 he.pos
  have ee : adr (some x) (0 * e.s + 0) = x := by simp [adr, Addr.add]
  rw [ee] at h2
  have h3 : 0 < (e.enc l[0]).length := by rw [he.len]; exact he.pos
  rw [List.getElem?_eq_getElem h3] at h2
  exact World.block_lt_of_cell? w x h2
theorem AtG.all {w w' : World} {a : Option Addr} {l : List α} (he : e.Ok) (h : AtG e w a l) (hb : Below w.heap.size w w') : AtG e w' a l := by
  intro k hk
  exact (h.below hb (h.lt he (by omega))) k hk
theorem AtG.drewN {w : World} {a : Option Addr} {l : List α} (h : AtG e w a l) (n : Nat) : AtG e (w.drewN n) a l := h

/-- A slice as it lies in a world. -/
def SlG (e : Elt α) (w : World) (v : Value) (l : List α) : Prop := ∃ a cap, v = .slice a l.length cap ∧ l.length ≤ cap ∧ cap ≤ maxLen ∧ (a = none → cap = 0) ∧ AtG e w a l
/-- A slice of the call's own. -/
def OwnG (e : Elt α) (w : World) (B : Nat) (v : Value) (l : List α) : Prop := w.ownsRow B e.E e.s v l.length (l.flatMap e.enc)
theorem OwnG.nil (w : World) (B : Nat) : OwnG e w B (.slice none 0 0) [] := World.ownsRow_nil _ _ _ _
theorem OwnG.sl {w : World} {B : Nat} {v : Value} {l : List α} (he : e.Ok) (h : OwnG e w B v l) : SlG e w v l := by
  obtain ⟨_, h⟩ := h
  rcases h with ⟨rfl, h0⟩ | ⟨g, cap, cur, rfl, hB, hg, h1, h2, h3, h4⟩
  · refine ⟨none, 0, by rw [h0], by omega, by unfold maxLen; omega, fun _ => rfl, ?_⟩
    intro k hk; omega
  · refine ⟨some ⟨g, 0, none⟩, cap, rfl, h1, h2, (fun e => by cases e), ?_⟩
    intro k hk
    refine ⟨rfl, fun j hj => ?_⟩
    have ee : adr (some ⟨g, 0, none⟩) (k * e.s + j) = ⟨g, k * e.s + j, none⟩ := by simp [adr, Addr.add_lit]
    rw [ee, cell_of_row w g (k * e.s + j) cur e.E (0, 0) hg]
    have h5 := flat_get he l k j hk hj
    rw [← h4, List.getElem?_take] at h5
    have hlt : k * e.s + j < l.length * e.s := by
      have : (k + 1) * e.s ≤ l.length * e.s := Nat.mul_le_mul_right _ hk
      rw [Nat.add_mul] at this; omega
    rw [if_pos hlt] at h5
    simpa using h5
theorem OwnG.stay {w w' : World} {B : Nat} {v : Value} {l : List α} (h : OwnG e w B v l) (hb : Below w.heap.size w w') : OwnG e w' B v l := by
  refine ⟨h.1, ?_⟩
  rcases h.2 with hn | ⟨g, cap, cur, rfl, h1, hg, rest⟩
  · exact .inl hn
  · refine .inr ⟨g, cap, cur, rfl, h1, ?_, rest⟩
    rw [hb.block g (Array.getElem?_eq_some_iff.1 hg).1]; exact hg
theorem OwnG.base {w : World} {B C : Nat} {v : Value} {l : List α} (h : OwnG e w B v l) (hC : C ≤ B) : OwnG e w C v l := by
  refine ⟨h.1, ?_⟩
  rcases h.2 with hn | ⟨g, cap, cur, rfl, h1, rest⟩
  · exact .inl hn
  · exact .inr ⟨g, cap, cur, rfl, by omega, rest⟩
theorem OwnG.below {w w' : World} {B : Nat} {v : Value} {l : List α} (h : OwnG e w B v l) (hB : B ≤ w.heap.size) (hg : w.grownBy w' v.ownBlock) : Below B w w' :=
  ⟨hg.os, hg.tape, hg.output, hg.size, fun k hk => hg.block k (by omega) (fun e => by have := (World.ownsRow.lt h k e.symm).1; omega)⟩
theorem OwnG.grown {w w' : World} {B : Nat} {v : Value} {l : List α} {row : Option Nat} (h : OwnG e w B v l) (hg : w.grownBy w' row) (hne : v.ownBlock = none ∨ v.ownBlock ≠ row) : OwnG e w' B v l := World.ownsRow.kept h hg hne

theorem ownG_new (he : e.Ok) (w : World) (B : Nat) (l : List α) (c : Array Value) (n : Nat) (hn : n = l.length) (hc : c.toList = l.flatMap e.enc) (hm : l.length ≤ maxLen) (hB : B ≤ w.heap.size) :
    OwnG e (w.alloc (.cells c e.E)) B (.slice (some ⟨w.heap.size, 0, none⟩) n n) l := by
  subst hn
  have hs : c.size = l.length * e.s := by rw [← Array.length_toList, hc, flat_len he]
  refine ⟨flat_len he l, .inr ⟨w.heap.size, l.length, c, rfl, hB, heap_alloc_new w _, Nat.le_refl _, hm, hs, ?_⟩⟩
  rw [hc, List.take_of_length_le (by rw [flat_len he]; exact Nat.le_refl _)]

theorem sizeG (he : e.Ok) (w : World) : (sizeOf (Try.prog.elem e.T)).run Try.prog w = .ok e.s w := by
  obtain ⟨i, hi, hz0, hz1, hz2⟩ := info_parts he.info
  have hel : Try.prog.elem e.T = e.E := by
    have := he.under
    simp [Program.elem, this]
  rw [hel]
  simp [sizeOf, typeInfo, hi, hz1]
theorem underG (he : e.Ok) : Try.prog.underlying e.T = some (.slice (Try.prog.elem e.T)) := by
  have := he.under
  simp [Program.elem, this]

theorem idxG (he : e.Ok) (a : Option Addr) (n cap : Nat) (hn : 0 < n → a.isSome = true) (k : Nat) (i : Int) (hi : i = (k : Int)) (hk : k < n) (wx : World) :
    (Instr.indexAt e.T (.slice a n cap) (.int .i64 i)).run Try.prog wx = .ok (.pointer (some (adr a (k * e.s)))) wx := by
  subst hi
  cases a with
  | none => simp at hn; omega
  | some a =>
    rw [run_indexAt_slice (h := underG he), if_pos ⟨by omega, by omega⟩, sizeG he]
    simp [Result.andThen, adr]
theorem cutG_lh (he : e.Ok) (a : Option Addr) (n cap lo hi : Nat) (i j : Int) (ei : i = lo) (ej : j = hi) (h1 : lo ≤ hi) (h2 : hi ≤ cap) (wx : World) :
    (Instr.slice e.T (.slice a n cap) (some (.int .i64 i)) (some (.int .i64 j)) none).run Try.prog wx = .ok (.slice (cutG e a lo cap) (hi - lo) (cap - lo)) wx := by
  subst ei ej
  rw [run_slice_lh wx _ a n cap (underG he) .i64 .i64 lo hi (by omega) (by omega) (by omega), sizeG he]
  simp [Result.andThen, sliced, cutG]
theorem cutG_h (he : e.Ok) (a : Option Addr) (n cap hi : Nat) (j : Int) (ej : j = hi) (h2 : hi ≤ cap) (wx : World) :
    (Instr.slice e.T (.slice a n cap) none (some (.int .i64 j)) none).run Try.prog wx = .ok (.slice (cutG e a 0 cap) hi cap) wx := by
  subst ej
  rw [run_slice_h wx _ a n cap (underG he) .i64 hi (by omega) (by omega), sizeG he]
  simp [Result.andThen, sliced, cutG]

/-- The cells of a source, as the laws on append ask for them. -/
theorem AtG.cells (he : e.Ok) {w : World} {x : Addr} {l : List α} (h : AtG e w (some x) l) : ∀ p u, (l.flatMap e.enc)[p]? = some u → w.cell? (x.add p) = some u := by
  intro p u hp
  obtain ⟨k, j, rfl, hj⟩ := flat_split (p := p) he.pos
  have hlt := (List.getElem?_eq_some_iff.1 hp).1
  rw [flat_len he] at hlt
  have hk : k < l.length := by
    rcases Nat.lt_or_ge k l.length with h | h
    · exact h
    · have := Nat.mul_le_mul_right e.s h; omega
  rw [flat_get he l k j hk hj] at hp
  have := (h k hk).2 j hj
  rw [hp] at this
  simpa [adr] using this
theorem flat_one (he : e.Ok) (l : List α) : ∀ u ∈ l.flatMap e.enc, u.oneCell' = true := by
  intro u hu
  obtain ⟨x, _, hx⟩ := List.mem_flatMap.1 hu
  exact he.one x u hx

theorem runG_app (he : e.Ok) (w : World) (B : Nat) (v : Value) (l : List α) (hown : OwnG e w B v l) (ad : Option Addr) (m : List α) (n cb : Nat) (hn : m.length = n) (hat : AtG e w ad m)
    (hlen : (l.length + n) * e.byt ≤ 140737488355328) (h63 : l.length + n ≤ maxLen) (hB : B ≤ w.heap.size) :
    ∃ v' w', (Builtin.append_ #[e.T, e.T] e.T #[v, .slice ad n cb]).run Try.prog w = .ok v' w' ∧ (OwnG e w' B v' (l ++ m) ∧ w.grownBy w' v.ownBlock ∧ Below B w w') := by
  subst hn
  obtain ⟨i, hi, hz0, hz1, hz2⟩ := info_parts he.info
  cases ad with
  | some x =>
    obtain ⟨v', w', h1, h2, h3, _⟩ := run_append_own (P := Try.prog) w B e.T e.T e.E i e.z e.s e.byt he.under hi hz0 hz1 hz2 he.zc he.pos v l.length (l.flatMap e.enc) hown x m.length cb (m.flatMap e.enc) (flat_len he m)
      (AtG.cells he hat) (flat_one he m) h63 hlen hB
    refine ⟨v', w', h1, ?_, h3, hown.below hB h3⟩
    unfold OwnG
    rw [List.length_append, List.flatMap_append]
    exact h2
  | none =>
    have hm : m = [] := by
      cases m with
      | nil => rfl
      | cons c m => have := (hat 0 (by simp)).1; simp at this
    subst hm
    refine ⟨v, w, ?_, by simpa using hown, ⟨rfl, rfl, rfl, Nat.le_refl _, fun _ _ _ => rfl⟩, Below.refl _ _⟩
    rcases hown.2 with ⟨rfl, h0⟩ | ⟨g, cap, cur, rfl, _, _, hnc, _⟩
    · simp [Builtin.append_, run_underlying he.under, sizeOf, typeInfo, hi, Builtin.lenOf, Builtin.firstCells]
    · simp [Builtin.append_, run_underlying he.under, sizeOf, typeInfo, hi, Builtin.lenOf, Builtin.firstCells, hnc, storeCells]
/-- `append(v, x)` of one element: the translation lays it in a block of its own first. -/
theorem runG_app1 (he : e.Ok) (w : World) (B : Nat) (v : Value) (l : List α) (hown : OwnG e w B v l) (x : α) (c : Array Value) (hc : c.toList = e.enc x)
    (hlen : (l.length + 1) * e.byt ≤ 140737488355328) (h63 : l.length + 1 ≤ maxLen) (hB : B ≤ w.heap.size) :
    ∃ v' w', (Builtin.append_ #[e.T, e.T] e.T #[v, .slice (some ⟨w.heap.size, 0, none⟩) 1 1]).run Try.prog (w.alloc (.cells c e.E)) = .ok v' w' ∧ (OwnG e w' B v' (l ++ [x]) ∧ Below B w w') := by
  have hn := ownG_new he w w.heap.size [x] c 1 rfl (by simpa using hc) (by simp [maxLen]) (Nat.le_refl _)
  obtain ⟨a, cap, e1, _, _, _, hat⟩ := hn.sl he
  cases e1
  have hb : Below w.heap.size w (w.alloc (.cells c e.E)) := (Below.refl _ _).alloc (Nat.le_refl _) _
  obtain ⟨v', w', h1, h2, _, h3⟩ := runG_app he (w.alloc (.cells c e.E)) B v l (hown.stay hb) _ [x] 1 1 rfl hat hlen h63 (by simp; omega)
  exact ⟨v', w', h1, h2, (hb.mono hB).trans h3⟩
theorem runG_app1G (he : e.Ok) (w : World) (g : Nat) (hg : g = w.heap.size) (B : Nat) (v : Value) (l : List α) (hown : OwnG e w B v l) (x : α) (c : Array Value) (hc : c.toList = e.enc x)
    (hlen : (l.length + 1) * e.byt ≤ 140737488355328) (h63 : l.length + 1 ≤ maxLen) (hB : B ≤ g) :
    ∃ v' w', (Builtin.append_ #[e.T, e.T] e.T #[v, .slice (some ⟨g, 0, none⟩) 1 1]).run Try.prog (w.alloc (.cells c e.E)) = .ok v' w' ∧ (OwnG e w' B v' (l ++ [x]) ∧ Below B w w') := by
  subst hg
  exact runG_app1 he w B v l hown x c hc hlen h63 hB
/-- Where what an append gives lies: where it lay, or in a new block. -/
theorem runG_block (he : e.Ok) (w : World) (B : Nat) (v : Value) (l : List α) (hown : OwnG e w B v l) (ad : Option Addr) (m : List α) (n cb : Nat) (hn : m.length = n) (hat : AtG e w ad m)
    (hlen : (l.length + n) * e.byt ≤ 140737488355328) (h63 : l.length + n ≤ maxLen) {v' : Value} {w' : World} (hr : (Builtin.append_ #[e.T, e.T] e.T #[v, .slice ad n cb]).run Try.prog w = .ok v' w') :
    v'.ownBlock = v.ownBlock ∨ v'.ownBlock = some w.heap.size := by
  subst hn
  obtain ⟨i, hi, hz0, hz1, hz2⟩ := info_parts he.info
  have h63' : l.length + m.length ≤ 9223372036854775807 := by unfold maxLen at h63; omega
  by_cases hm : m = []
  · subst hm
    left
    have : (Builtin.append_ #[e.T, e.T] e.T #[v, .slice ad ([] : List α).length cb]).run Try.prog w = .ok v w := by
      rcases hown.2 with ⟨rfl, h0⟩ | ⟨g, cap, cur, rfl, _, _, hnc, _⟩
      · cases ad <;> simp [Builtin.append_, run_underlying he.under, sizeOf, typeInfo, hi, Builtin.lenOf, Builtin.firstCells, loadCells, loadCellsFrom]
      · cases ad <;> simp [Builtin.append_, run_underlying he.under, sizeOf, typeInfo, hi, Builtin.lenOf, Builtin.firstCells, hnc, storeCells, loadCells, loadCellsFrom]
    rw [this] at hr
    cases hr; rfl
  · have hpos : 0 < m.length := List.length_pos_iff.2 hm
    obtain ⟨x, rfl⟩ := Option.isSome_iff_exists.1 (hat 0 hpos).1
    rcases hown.2 with ⟨rfl, h0⟩ | ⟨g, cap, cur, rfl, hB, hg, hnc, hcm, hcs, htake⟩
    · right
      have hr2 := run_append_nil (P := Try.prog) w e.T e.T e.E i e.z he.under hi hz0 x m.length cb (m.flatMap e.enc) (by rw [hz1]; exact flat_len he m) (AtG.cells he hat) hpos (by omega) (by rw [hz2]; rw [h0, Nat.zero_add] at hlen; omega)
      rw [hr2] at hr
      cases hr; rfl
    · by_cases hroom : l.length + m.length ≤ cap
      · left
        have hfit : l.length * i.size + (m.flatMap e.enc).length ≤ cur.size := by rw [flat_len he, hz1, hcs, ← Nat.add_mul]; exact Nat.mul_le_mul_right _ hroom
        have hr2 := run_append_room (P := Try.prog) w e.T e.T e.E i he.under hi g l.length cap cur hg x m.length cb (m.flatMap e.enc) (by rw [hz1]; exact flat_len he m) (AtG.cells he hat) (flat_one he m) hroom hfit
        rw [hr2] at hr
        cases hr; rfl
      · right
        have hc : ∀ j u, (l.flatMap e.enc)[j]? = some u → w.cell? ((⟨g, 0, none⟩ : Addr).add j) = some u := World.ownsRow.cells hown (g := g) rfl
        have hr2 := run_append_grow (P := Try.prog) w e.T e.T e.E i e.z he.under hi hz0 ⟨g, 0, none⟩ l.length cap (l.flatMap e.enc) (by rw [hz1]; exact flat_len he l) hc x m.length cb (m.flatMap e.enc) (by rw [hz1]; exact flat_len he m) (AtG.cells he hat) (by omega) (by omega) (growslice_fits (by omega) (by rw [hz2]; exact hlen))
        rw [hr2] at hr
        cases hr; rfl
/-- All that an append to a slice of one's own leaves. -/
structure Apped (e : Elt α) (w w' : World) (B : Nat) (v v' : Value) (l : List α) : Prop where
  own : OwnG e w' B v' l
  below : Below B w w'
  keep : ∀ b, b < w.heap.size → v.ownBlock ≠ some b → w'.heap[b]? = w.heap[b]?
  blk : ∀ g, v'.ownBlock = some g → v.ownBlock = some g ∨ w.heap.size ≤ g
theorem runG_full (he : e.Ok) (w : World) (B : Nat) (v : Value) (l : List α) (hown : OwnG e w B v l) (ad : Option Addr) (m : List α) (n cb : Nat) (hn : m.length = n) (hat : AtG e w ad m)
    (hlen : (l.length + n) * e.byt ≤ 140737488355328) (h63 : l.length + n ≤ maxLen) (hB : B ≤ w.heap.size) :
    ∃ v' w', (Builtin.append_ #[e.T, e.T] e.T #[v, .slice ad n cb]).run Try.prog w = .ok v' w' ∧ Apped e w w' B v v' (l ++ m) := by
  obtain ⟨v', w', h1, h2, h3, h4⟩ := runG_app he w B v l hown ad m n cb hn hat hlen h63 hB
  refine ⟨v', w', h1, h2, h4, fun b hb hne => h3.block b hb (fun e => hne e.symm), ?_⟩
  intro g hg
  rcases runG_block he w B v l hown ad m n cb hn hat hlen h63 h1 with h | h
  · left; rw [← h]; exact hg
  · right; rw [h] at hg; cases hg; exact Nat.le_refl _
theorem runG_full1 (he : e.Ok) (w : World) (g : Nat) (hg : g = w.heap.size) (B : Nat) (v : Value) (l : List α) (hown : OwnG e w B v l) (x : α) (c : Array Value) (hc : c.toList = e.enc x)
    (hlen : (l.length + 1) * e.byt ≤ 140737488355328) (h63 : l.length + 1 ≤ maxLen) (hB : B ≤ g) :
    ∃ v' w', (Builtin.append_ #[e.T, e.T] e.T #[v, .slice (some ⟨g, 0, none⟩) 1 1]).run Try.prog (w.alloc (.cells c e.E)) = .ok v' w' ∧ Apped e w w' B v v' (l ++ [x]) := by
  subst hg
  have hn := ownG_new he w w.heap.size [x] c 1 rfl (by simpa using hc) (by simp [maxLen]) (Nat.le_refl _)
  obtain ⟨a, cap, e1, _, _, _, hat⟩ := hn.sl he
  cases e1
  have hb : Below w.heap.size w (w.alloc (.cells c e.E)) := (Below.refl _ _).alloc (Nat.le_refl _) _
  obtain ⟨v', w', h1, h2⟩ := runG_full he (w.alloc (.cells c e.E)) B v l (hown.stay hb) _ [x] 1 1 rfl hat hlen h63 (by simp; omega)
  refine ⟨v', w', h1, h2.own, (hb.mono hB).trans h2.below, ?_, ?_⟩
  · intro b hbl hne
    rw [h2.keep b (by simp; omega) hne]
    exact hb.block b hbl
  · intro g hg
    rcases h2.blk g hg with h | h
    · exact .inl h
    · right; simp at h; omega
/-- Another slice stays where it is while one appends. -/
theorem OwnG.apart {β : Type} {f : Elt β} {w w' : World} {B C : Nat} {v v' u : Value} {l : List α} {m : List β} (h : OwnG f w C u m) (ha : Apped e w w' B v v' l) (hne : ∀ g, u.ownBlock = some g → v.ownBlock ≠ some g) :
    OwnG f w' C u m ∧ ∀ g, u.ownBlock = some g → v'.ownBlock ≠ some g := by
  have hlt := World.ownsRow.lt h
  refine ⟨⟨h.1, ?_⟩, ?_⟩
  · rcases h.2 with hn | ⟨g, cap, cur, rfl, h1, hg, rest⟩
    · exact .inl hn
    · refine .inr ⟨g, cap, cur, rfl, h1, ?_, rest⟩
      rw [ha.keep g (Array.getElem?_eq_some_iff.1 hg).1 (hne g rfl)]; exact hg
  · intro g hg hv
    rcases ha.blk g hv with h1 | h1
    · exact hne g hg h1
    · have := (hlt g hg).2; omega
end

/-- Bytes, as one of these. -/
def eB : Elt UInt8 := { T := 32, E := 5, s := 1, byt := 1, z := .int .u8 0, enc := fun c => [bv c] }
theorem eBok : eB.Ok := ⟨fun _ => rfl, fun _ u hu => by simp [eB] at hu; subst hu; rfl, by decide, by kernel_rfl, by kernel_rfl, by rfl⟩
theorem flatB (l : List UInt8) : l.flatMap eB.enc = l.map bv := by
  induction l with
  | nil => rfl
  | cons c l ih => rw [List.flatMap_cons, ih]; rfl
theorem ownB (w : World) (B : Nat) (v : Value) (l : List UInt8) : OwnG eB w B v l ↔ Own w B v l := by
  unfold OwnG Own; rw [flatB]; rfl
theorem atB (w : World) (a : Option Addr) (l : List UInt8) : AtG eB w a l ↔ At w a l := by
  constructor
  · intro h k hk
    obtain ⟨h1, h2⟩ := h k hk
    have := h2 0 (by decide)
    rw [show k * eB.s + 0 = k from Nat.mul_one k] at this
    exact ⟨h1, this⟩
  · intro h k hk
    obtain ⟨h1, h2⟩ := h k hk
    refine ⟨h1, fun j hj => ?_⟩
    have hj0 : j = 0 := by have : eB.s = 1 := rfl; omega
    subst hj0
    rw [show k * eB.s + 0 = k from Nat.mul_one k]
    exact h2

end Go.Proofs.Ytkkailggpfmgaaa
