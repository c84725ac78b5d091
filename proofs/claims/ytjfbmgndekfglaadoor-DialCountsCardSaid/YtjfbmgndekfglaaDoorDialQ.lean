/- Dials: the rows of queues; counts; dials as they lie. -/
import Derived.Test.YtjfbmgndekfglaaDoorBehinds
import Derived.Test.YtjfbmgndekfglaaDoorLogRef
namespace Go.Proofs.YtjfbmgndekfglaaDoor
set_option linter.unusedVariables false
set_option linter.unusedSimpArgs false
open Go.RowKit
theorem run_makeQ (w : World) (n : Nat) (h1 : 1 ≤ n) (h3 : n ≤ 3) :
    ∃ v' w', (Instr.makeSlice 32 (.int .i64 (n : Int)) (.int .i64 (n : Int))).run Tryd.prog w = .ok v' w' ∧ (v' = .slice (some ⟨w.heap.size, 0, none⟩) n n ∧ w'.heap[w.heap.size]? = some (.cells (List.replicate (n * 5) (.int .i64 0)).toArray 37 (0, 0)) ∧ Below w.heap.size w w') := by
  have ht : Tryd.prog.underlying 32 = some (.slice 37) := by kernel_rfl
  obtain ⟨i, hi, hz, hs, hb⟩ : ∃ i, Tryd.prog.info? 37 = some i ∧ i.zero = some (.agg #[.int .i64 0, .int .i64 0, .int .i64 0, .int .i64 0, .int .i64 0]) ∧ i.size = 5 ∧ i.bytes = 40 := info_parts (by kernel_rfl)
  obtain ⟨w', hr, h2, h4⟩ := run_make_full (P := Tryd.prog) w w.heap.size 32 37 i _ 5 ht hi hz hs .i64 .i64 n (by rw [hb]; omega) (by unfold maxLen; omega) (Nat.le_refl _)
  refine ⟨_, w', hr, rfl, ?_, ⟨h4.os, h4.tape, h4.output, h4.size, fun k hk => h4.block k hk (by simp)⟩⟩
  rcases h2.2 with ⟨hv, h0⟩ | ⟨g, cap, cur, hv, hg0, hg, hn, hm, hc, ht⟩
  · cases hv
  · cases hv
    rw [hg]
    have : cur.toList = List.replicate (n * 5) (.int .i64 0) := by
      rw [List.take_of_length_le (by rw [Array.length_toList, hc]; exact Nat.le_refl _)] at ht
      rw [ht]
      rcases (show n = 1 ∨ n = 2 ∨ n = 3 by omega) with rfl | rfl | rfl <;> kernel_rfl
    rw [← this]
theorem St.newQ {w0 w w' : World} {l : List Thing} (S : St w0 w l) {g : Nat} {T : TypeId} {cs : List Value} (hb : Below w.heap.size w w') (hg : w.heap.size = g) (h : w'.heap[w.heap.size]? = some (.cells cs.toArray T (0, 0))) : St w0 w' (l ++ [cellsT g T cs]) := by
  subst hg
  refine S.push hb (F := fun b => b = w.heap.size) ⟨S.size, ?_, fun b => Iff.rfl⟩ (fun b hb => by subst hb; exact Nat.le_refl _)
  exact h
structure DI where
  up : Int
  cord : Int
  mov : Int
  beh : Int
  free : Int
  end_ : Int
  share : Int
def DI.cs (d : DI) (v : Value) : List Value := [.int .i64 d.up, .int .i64 d.cord, .int .i64 d.mov, .int .i64 d.beh, .int .i64 d.free, v, .int .i64 d.end_, .int .i64 d.share]
theorem diStore (w : World) (g : Nat) (a b : List Value) (h : w.heap[g]? = some (.cells a.toArray 34 (0, 0))) (ha : a.length = 8) (hb : b.length = 8) (h1 : ∀ v ∈ b, v.oneCell' = true) : (storeCells ⟨g, 0, none⟩ b).run Tryd.prog w = .ok () (w.setRow g b.toArray) := by
  have := run_storeCells_from (P := Tryd.prog) g 34 b 0 a.toArray w h (by simp [ha, hb]) h1
  simpa [ha, hb] using this
def cntP (p : ND → Bool) (N : List ND) : Nat → Int
  | 0 => 0
  | k + 1 => cntP p N k + (match N[k]? with | some x => if p x = true then 1 else 0 | none => 0)
theorem cntP_le (p : ND → Bool) (N : List ND) : ∀ k, 0 ≤ cntP p N k ∧ cntP p N k ≤ k
  | 0 => ⟨Int.le_refl _, Int.le_refl _⟩
  | k + 1 => by
    have := cntP_le p N k
    rw [cntP]
    cases N[k]? with
    | none => simp; omega
    | some x => by_cases h : p x = true <;> simp [h] <;> omega
def bI (b : Bool) : Int := if b = true then 1 else 0
theorem cntP_step (p : ND → Bool) (N : List ND) (k : Nat) (h : k < N.length) : cntP p N (k + 1) = cntP p N k + bI (p N[k]) := by rw [cntP, List.getElem?_eq_getElem h]; rfl
theorem dOne (b : Bool) (w : World) : Calls Tryd.prog 22 #[.bool b] w fun e w' => e = .returned (.int .i64 (bI b)) ∧ w' = w := by
  cases b
  · go_enter Tryd.func22, Tryd.ntmps22
    go_wp2
    go_ret
    exact ⟨rfl, rfl⟩
  · go_enter Tryd.func22, Tryd.ntmps22
    go_wp2
    go_ret
    exact ⟨rfl, rfl⟩
/-- How many of the first k jobs stand in a queue, a phase: i = 5 * queue + phase. -/
def jobAt (j : JB) : Nat := (j.queue * 5 + j.phase).toNat
def qCnt (J : List JB) : Nat → Nat → Int
  | 0, _ => 0
  | k + 1, i => qCnt J k i + (match J[k]? with | some j => if jobAt j = i then 1 else 0 | none => 0)
def qCells (J : List JB) (n k : Nat) : List Value := (List.range (n * 5)).map fun i => .int .i64 (qCnt J k i)
theorem qCnt_le (J : List JB) (i : Nat) : ∀ k, 0 ≤ qCnt J k i ∧ qCnt J k i ≤ k
  | 0 => ⟨Int.le_refl _, Int.le_refl _⟩
  | k + 1 => by
    have := qCnt_le J i k
    rw [qCnt]
    cases J[k]? with
    | none => simp; omega
    | some x => by_cases h : jobAt x = i <;> simp [h] <;> omega
theorem qCells_step (J : List JB) (n k : Nat) (h : k < J.length) : qCells J n (k + 1) = (qCells J n k).set (jobAt J[k]) (.int .i64 (qCnt J k (jobAt J[k]) + 1)) := by
  unfold qCells
  apply List.ext_getElem
  · simp
  intro i h1 h2
  rw [List.getElem_set]
  simp only [List.getElem_map, List.getElem_range]
  rw [qCnt, List.getElem?_eq_getElem h]
  by_cases e : jobAt J[k] = i
  · simp [e]
  · simp [e]
theorem qCells_zero (J : List JB) (n : Nat) : qCells J n 0 = List.replicate (n * 5) (.int .i64 0) := by
  unfold qCells
  apply List.ext_getElem
  · simp
  intro i h1 h2
  simp [qCnt]
def endK (s : STA) (now : Int) : Nat → Int
  | 0 => now
  | k + 1 => max (endK s now k) (endS s ((k : Int) + 1) now)
structure Q5 where
  a : Int
  b : Int
  c : Int
  d : Int
  e : Int
def Q5.cs (x : Q5) : List Value := [.int .i64 x.a, .int .i64 x.b, .int .i64 x.c, .int .i64 x.d, .int .i64 x.e]
def eQ : Elt Q5 := { T := 32, E := 37, s := 5, byt := 40, z := .agg #[.int .i64 0, .int .i64 0, .int .i64 0, .int .i64 0, .int .i64 0], enc := Q5.cs }
theorem eQok : eQ.Ok := ⟨fun _ => rfl, fun x u hu => by simp [eQ, Q5.cs] at hu; rcases hu with rfl | rfl | rfl | rfl | rfl <;> rfl, by decide, by kernel_rfl, by kernel_rfl, by rfl⟩
theorem idxQ (a : Option Addr) (n cap : Nat) (hn : 0 < n → a.isSome = true) (k : Nat) (i : Int) (hi : i = (k : Int)) (hk : k < n) (wx : World) :
    (Instr.indexAt 32 (.slice a n cap) (.int .i64 i)).run Tryd.prog wx = .ok (.pointer (some (adr a (k * 5)))) wx := idxG eQok a n cap hn k i hi hk wx
theorem idxP (g o : Nat) (k : Nat) (i : Int) (hi : i = (k : Int)) (hk : k < 5) (wx : World) :
    (Instr.indexAt 37 (.pointer (some ⟨g, o, none⟩)) (.int .i64 i)).run Tryd.prog wx = .ok (.pointer (some ⟨g, o + k, none⟩)) wx := by
  subst hi
  have h1 : Tryd.prog.arrayLen 37 = 5 := by kernel_rfl
  have h2 : (sizeOf (Tryd.prog.elem 37)).run Tryd.prog wx = .ok 1 wx := by kernel_rfl
  rw [run_indexAt_array (P := Tryd.prog) (w := wx) 37 ⟨g, o, none⟩ .i64 (k : Int) (by kernel_rfl), h1, if_pos ⟨by omega, by omega⟩, h2]
  simp [Result.andThen, Addr.add]
end Go.Proofs.YtjfbmgndekfglaaDoor
