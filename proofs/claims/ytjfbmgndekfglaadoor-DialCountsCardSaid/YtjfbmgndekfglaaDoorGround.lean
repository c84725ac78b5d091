/- What all walks share: slices of bytes as lists. Slices of whatever elements, as lists: what all walks share. What a call turns, block by block: objects behind pointers, apart from one another. Steps of a region that draws its order: which operation is met. -/
import Derived.Test.YtjfbmgndekfglaaDoorProg
import Derived.WalkLawsBesides
import Derived.WalkSpells
import Derived.Deep.QuietTactic
import Derived.BigQuiet
import Derived.WalkSmall
import Derived.Deep.RegionHeld3
import Derived.Lib.AppendStr
import Derived.Lib.SlBytesConst
import Derived.Laws.CopyOwn
import Derived.Laws.LoneSync
namespace Go.Proofs.YtjfbmgndekfglaaDoor
set_option linter.unusedVariables false
set_option linter.unusedSimpArgs false
open Go.RowKit

/-- A fact kept from the walk. -/
theorem hid {p : Prop} (h : p) : Hid p := h

/-- The address of place `k` behind a slice's head. -/
def adr (a : Option Addr) (k : Nat) : Addr := (a.getD default).add k
/-- The bytes `l` stand behind the head `a`. -/
def At (w : World) (a : Option Addr) (l : List UInt8) : Prop := ∀ k (h : k < l.length), a.isSome = true ∧ w.cell? (adr a k) = some (.int .u8 (l[k].toNat : Int))

theorem sliceT : Tryd.prog.underlying 70 = some (.slice (Tryd.prog.elem 70)) := by kernel_rfl
theorem sizeT (w : World) : (sizeOf (Tryd.prog.elem 70)).run Tryd.prog w = .ok 1 w := by kernel_rfl

theorem idx_run (a : Option Addr) (n cap : Nat) (hn : 0 < n → a.isSome = true) (k : Nat) (wx : World) (hk : k < n) :
    (Instr.indexAt 70 (.slice a n cap) (.int .i64 k)).run Tryd.prog wx = .ok (.pointer (some (adr a k))) wx := by
  cases a with
  | none => simp at hn; omega
  | some a =>
    rw [run_indexAt_slice (h := sliceT), if_pos ⟨by omega, by omega⟩, sizeT]
    simp [Result.andThen, adr]

theorem idx_at (a : Option Addr) (n cap : Nat) (hn : 0 < n → a.isSome = true) (k : Nat) (i : Int) (hi : i = (k : Int)) (hk : k < n) (wx : World) :
    (Instr.indexAt 70 (.slice a n cap) (.int .i64 i)).run Tryd.prog wx = .ok (.pointer (some (adr a k))) wx := by
  rw [hi]; exact idx_run a n cap hn k wx hk

theorem At.ok {w : World} {a : Option Addr} {l : List UInt8} (h : At w a l) (hl : 0 < l.length) : a.isSome = true := (h 0 hl).1
theorem At.cell {w : World} {a : Option Addr} {l : List UInt8} (h : At w a l) {k : Nat} (hk : k < l.length) : w.cell? (adr a k) = some (.int .u8 (l[k].toNat : Int)) := (h k hk).2

/-- A byte as a value. -/
def bv (c : UInt8) : Value := .int .u8 (c.toNat : Int)
theorem bv_def (c : UInt8) : bv c = .int .u8 (c.toNat : Int) := rfl
/-- The slice `v` is one of the call's own (blocks from `B` on), and holds the bytes `l`. -/
def Own (w : World) (B : Nat) (v : Value) (l : List UInt8) : Prop := w.ownsRow B 5 1 v l.length (l.map bv)

theorem Own.nil (w : World) (B : Nat) : Own w B (.slice none 0 0) [] := World.ownsRow_nil _ _ _ _

/-- A slice of bytes, as it lies in a world: its head, its length, its capacity. -/
def Sl (w : World) (v : Value) (l : List UInt8) : Prop := ∃ a cap, v = .slice a l.length cap ∧ l.length ≤ cap ∧ cap ≤ maxLen ∧ At w a l

theorem Own.sl {w : World} {B : Nat} {v : Value} {l : List UInt8} (h : Own w B v l) : Sl w v l := by
  obtain ⟨_, h⟩ := h
  rcases h with ⟨rfl, h0⟩ | ⟨g, cap, cur, rfl, hB, hg, h1, h2, h3, h4⟩
  · refine ⟨none, 0, by rw [h0], by omega, by unfold maxLen; omega, ?_⟩
    intro k hk; omega
  · refine ⟨some ⟨g, 0, none⟩, cap, rfl, h1, h2, ?_⟩
    intro k hk
    refine ⟨rfl, ?_⟩
    have e : adr (some ⟨g, 0, none⟩) k = ⟨g, k, none⟩ := by simp [adr, Addr.add_lit]
    rw [e, cell_of_row w g k cur 5 (0, 0) hg]
    have h5 : (cur.toList.take (l.length * 1))[k]? = some (bv l[k]) := by rw [h4]; simp [hk]
    rw [List.getElem?_take] at h5
    split at h5
    · simpa [bv] using h5
    · cases h5

theorem At.below {w w' : World} {a : Option Addr} {l : List UInt8} (h : At w a l) {B : Nat} (hb : Below B w w') (ha : ∀ x, a = some x → x.block < B) : At w' a l := by
  intro k hk
  obtain ⟨h1, h2⟩ := h k hk
  refine ⟨h1, ?_⟩
  obtain ⟨x, rfl⟩ := Option.isSome_iff_exists.1 h1
  have e : (adr (some x) k).block = x.block := by simp [adr]; unfold Addr.add; split <;> rfl
  rw [← h2]
  exact hb.cell (by rw [e]; exact ha x rfl)
/-- Cells that are there lie in a block that is there. -/
theorem At.lt {w : World} {a : Option Addr} {l : List UInt8} (h : At w a l) (hl : 0 < l.length) : ∀ x, a = some x → x.block < w.heap.size := by
  rintro x rfl
  have h2 := (h 0 hl).2
  have e : adr (some x) 0 = x := by simp [adr, Addr.add]
  rw [e] at h2
  exact World.block_lt_of_cell? w x h2
theorem At.all {w w' : World} {a : Option Addr} {l : List UInt8} (h : At w a l) (hb : Below w.heap.size w w') : At w' a l := by
  intro k hk
  exact (h.below hb (h.lt (by omega))) k hk
theorem At.drewN {w : World} {a : Option Addr} {l : List UInt8} (h : At w a l) (n : Nat) : At (w.drewN n) a l := h
theorem At.nil (w : World) (a : Option Addr) : At w a [] := by intro k hk; simp at hk
theorem At.take {w : World} {a : Option Addr} {l : List UInt8} (h : At w a l) (n : Nat) : At w a (l.take n) := by
  intro k hk
  obtain ⟨h1, h2⟩ := h k (by simp at hk; omega)
  exact ⟨h1, by rw [h2]; simp⟩
theorem adr_add (a : Option Addr) (i k : Nat) : adr (a.map (·.add i)) k = if a.isSome then adr a (i + k) else adr none k := by
  cases a with
  | none => rfl
  | some x =>
    simp only [adr, Option.map_some, Option.getD_some, Option.isSome_some, if_true]
    unfold Addr.add
    by_cases hi : i = 0
    · subst hi; simp
    · by_cases hk : k = 0
      · subst hk; simp [hi]
      · simp [hi, hk, Nat.add_assoc]
theorem At.drop {w : World} {a : Option Addr} {l : List UInt8} (h : At w a l) (n : Nat) : At w (a.map (·.add n)) (l.drop n) := by
  intro k hk
  simp at hk
  obtain ⟨h1, h2⟩ := h (n + k) (by omega)
  refine ⟨by simpa using h1, ?_⟩
  rw [adr_add, if_pos h1, h2]; simp
/-- The head of `b[lo:hi]`. -/
def cutH (a : Option Addr) (lo cap : Nat) : Option Addr := if cap = lo then a else a.map (·.add (lo * 1))
theorem At.cut {w : World} {a : Option Addr} {l : List UInt8} (h : At w a l) (lo n cap : Nat) (hm : n ≤ cap - lo) : At w (cutH a lo cap) ((l.drop lo).take n) := by
  unfold cutH
  split
  · rename_i e
    rw [show n = 0 by omega]
    exact At.nil _ _
  · rw [Nat.mul_one]
    exact (h.drop lo).take n
theorem cut_lh (a : Option Addr) (n cap lo hi : Nat) (wx : World) (h1 : lo ≤ hi) (h2 : hi ≤ cap) :
    (Instr.slice 70 (.slice a n cap) (some (.int .i64 lo)) (some (.int .i64 hi)) none).run Tryd.prog wx = .ok (.slice (cutH a lo cap) (hi - lo) (cap - lo)) wx := by
  rw [run_slice_lh wx _ a n cap sliceT .i64 .i64 lo hi (by omega) (by omega) (by omega), sizeT]
  simp [Result.andThen, sliced, cutH]
theorem cut_h (a : Option Addr) (n cap hi : Nat) (wx : World) (h2 : hi ≤ cap) :
    (Instr.slice 70 (.slice a n cap) none (some (.int .i64 hi)) none).run Tryd.prog wx = .ok (.slice (cutH a 0 cap) hi cap) wx := by
  rw [run_slice_h wx _ a n cap sliceT .i64 hi (by omega) (by omega), sizeT]
  simp [Result.andThen, sliced, cutH]
theorem cut_l (a : Option Addr) (n cap lo : Nat) (wx : World) (h1 : lo ≤ n) (h2 : n ≤ cap) :
    (Instr.slice 70 (.slice a n cap) (some (.int .i64 lo)) none none).run Tryd.prog wx = .ok (.slice (cutH a lo cap) (n - lo) (cap - lo)) wx := by
  have hn : ((lo : Int)) ≤ (n : Int) := by omega
  rw [run_slice_any wx _ a n cap sliceT]
  have hb : (Instr.sliceBounds true n cap (some (.int .i64 (lo : Int))) none none).run Tryd.prog wx = .ok (lo, n, cap) wx := by
    simp [Instr.sliceBounds, run_sliceBound, hn, h2]
  rw [hb]
  simp only [Result.andThen]
  rw [sizeT]
  simp [Result.andThen, sliced, cutH]

theorem cut_lhI (a : Option Addr) (n cap lo hi : Nat) (i j : Int) (ei : i = lo) (ej : j = hi) (h1 : lo ≤ hi) (h2 : hi ≤ cap) (wx : World) :
    (Instr.slice 70 (.slice a n cap) (some (.int .i64 i)) (some (.int .i64 j)) none).run Tryd.prog wx = .ok (.slice (cutH a lo cap) (hi - lo) (cap - lo)) wx := by
  rw [ei, ej]; exact cut_lh a n cap lo hi wx h1 h2
theorem cut_hI (a : Option Addr) (n cap hi : Nat) (j : Int) (ej : j = hi) (h2 : hi ≤ cap) (wx : World) :
    (Instr.slice 70 (.slice a n cap) none (some (.int .i64 j)) none).run Tryd.prog wx = .ok (.slice (cutH a 0 cap) hi cap) wx := by
  rw [ej]; exact cut_h a n cap hi wx h2
theorem cut_lI (a : Option Addr) (n cap lo : Nat) (i : Int) (ei : i = lo) (h1 : lo ≤ n) (h2 : n ≤ cap) (wx : World) :
    (Instr.slice 70 (.slice a n cap) (some (.int .i64 i)) none none).run Tryd.prog wx = .ok (.slice (cutH a lo cap) (n - lo) (cap - lo)) wx := by
  rw [ei]; exact cut_l a n cap lo wx h1 h2
theorem At.h {w : World} {a : Option Addr} {l : List UInt8} (h : At w a l) (n cap : Nat) (hm : n ≤ cap) : At w (cutH a 0 cap) (l.take n) := by
  have := h.cut 0 n cap (by omega); rwa [List.drop_zero] at this
theorem At.l {w : World} {a : Option Addr} {l : List UInt8} (h : At w a l) (n cap : Nat) (hm : l.length ≤ cap) : At w (cutH a n cap) (l.drop n) := by
  have := h.cut n (l.length - n) cap (by omega)
  rwa [List.take_of_length_le (by rw [List.length_drop]; omega)] at this

theorem u8T : Tryd.prog.underlying 5 = some (.int .u8) := by kernel_rfl

/-- One more step. -/
theorem bst {w w1 w2 : World} (h : Below w.heap.size w w1) (k : Below w1.heap.size w1 w2) : Below w.heap.size w w2 := h.trans (k.mono h.size)
theorem bstB {B : Nat} {w w1 w2 : World} (hB : B ≤ w.heap.size) (h : Below B w w1) (k : Below w1.heap.size w1 w2) : Below B w w2 := h.trans (k.mono (Nat.le_trans hB h.size))
theorem undrew {B : Nat} {w w' : World} (h : Below B w.drew w') : Below B w w' := ⟨h.os, h.tape, h.output, h.size, h.block⟩
theorem undrewN {B n : Nat} {w w' : World} (h : Below B (w.drewN n) w') : Below B w w' := ⟨h.os, h.tape, h.output, h.size, h.block⟩

theorem own_new (w : World) (B : Nat) (l : List UInt8) (c : Array Value) (n : Nat) (hn : n = l.length) (hc : c.toList = l.map bv) (hm : l.length ≤ maxLen) (hB : B ≤ w.heap.size) :
    Own (w.alloc (.cells c 5)) B (.slice (some ⟨w.heap.size, 0, none⟩) n n) l := by
  subst hn
  have hs : c.size = l.length := by rw [← Array.length_toList, hc]; simp
  refine ⟨by simp, .inr ⟨w.heap.size, l.length, c, rfl, hB, heap_alloc_new w _, Nat.le_refl _, hm, by omega, ?_⟩⟩
  rw [hc, Nat.mul_one, List.take_of_length_le (by simp)]
/-- A byte out of a number. -/
theorem bv_of (n : Int) (h0 : 0 ≤ n) (h1 : n < 256) : bv (UInt8.ofNat n.toNat) = .int .u8 n := by
  unfold bv
  congr 1
  rw [UInt8.toNat_ofNat']
  omega

theorem infoB : (Tryd.prog.info? 5).map (fun i => (i.zero, i.size, i.bytes)) = some (some (.int .u8 0), 1, 1) := by kernel_rfl
theorem sliceB : Tryd.prog.underlying 70 = some (.slice 5) := by kernel_rfl
theorem bv_one (l : List UInt8) : ∀ u ∈ l.map bv, u.oneCell' = true := by
  intro u hu
  obtain ⟨c, _, rfl⟩ := List.mem_map.1 hu
  rfl

/-- `append(v, x...)` to a slice of the call's own, as it runs. -/
theorem run_app (ty : TypeId) (w : World) (B : Nat) (v : Value) (l : List UInt8) (hown : Own w B v l) (ad : Option Addr) (m : List UInt8) (n cb : Nat) (hn : m.length = n) (hat : At w ad m)
    (hlen : l.length + n ≤ 140737488355328) (hB : B ≤ w.heap.size) :
    ∃ v' w', (Builtin.append_ #[70, 70] 70 #[v, .slice ad n cb]).run Tryd.prog w = .ok v' w' ∧ Own w' B v' (l ++ m) ∧ w.grownBy w' v.ownBlock := by
  subst hn
  obtain ⟨i, hi, hz0, hz1, hz2⟩ := info_parts infoB
  have key : ∀ x : Addr, At w (some x) m → ∃ v' w', (Builtin.append_ #[70, 70] 70 #[v, .slice (some x) m.length cb]).run Tryd.prog w = .ok v' w' ∧ Own w' B v' (l ++ m) ∧ w.grownBy w' v.ownBlock := by
    intro x hat
    obtain ⟨v', w', h1, h2, h3, _⟩ := run_append_own (P := Tryd.prog) w B 70 70 5 i (.int .u8 0) 1 1 sliceB hi hz0 hz1 hz2 rfl (by omega) v l.length (l.map bv) hown x m.length cb (m.map bv) (by simp)
      (by
        intro j u hj
        simp only [List.getElem?_map, Option.map_eq_some_iff] at hj
        obtain ⟨c, hc, rfl⟩ := hj
        obtain ⟨hk, rfl⟩ := List.getElem?_eq_some_iff.1 hc
        exact (hat j hk).2) (bv_one m) (by unfold maxLen; omega) (by omega) hB
    refine ⟨v', w', h1, ?_, h3⟩
    unfold Own
    rw [List.length_append, List.map_append]
    exact h2
  cases ad with
  | some x => exact key x hat
  | none =>
    have hm : m = [] := by
      cases m with
      | nil => rfl
      | cons c m => have := (hat 0 (by simp)).1; simp at this
    subst hm
    refine ⟨v, w, ?_, by simpa using hown, rfl, rfl, rfl, Nat.le_refl _, fun _ _ _ => rfl⟩
    rcases hown.2 with ⟨rfl, h0⟩ | ⟨g, cap, cur, rfl, _, _, hnc, _⟩
    · simp [Builtin.append_, run_underlying sliceB, sizeOf, typeInfo, hi, Builtin.lenOf, Builtin.firstCells]
    · simp [Builtin.append_, run_underlying sliceB, sizeOf, typeInfo, hi, Builtin.lenOf, Builtin.firstCells, hnc, storeCells]

/-- `append(v, x...)` to a slice that has no room: a new block. -/
theorem run_grow (w : World) (a : Option Addr) (l : List UInt8) (k ca : Nat) (hk : l.length = k) (hal : At w a l) (ad : Option Addr) (m : List UInt8) (n cb : Nat) (hn : m.length = n) (hat : At w ad m)
    (hnil : a = none → k = 0 ∧ ca = 0) (hg : ca < k + n) (h0 : 0 < n) (hlen : k + n ≤ 140737488355328) :
    ∃ v' w', (Builtin.append_ #[70, 70] 70 #[.slice a k ca, .slice ad n cb]).run Tryd.prog w = .ok v' w' ∧ Own w' w.heap.size v' (l ++ m) ∧ Below w.heap.size w w' := by
  subst hk hn
  obtain ⟨i, hi, hz0, hz1, hz2⟩ := info_parts infoB
  have cells : ∀ (x : Addr) (q : List UInt8), At w (some x) q → ∀ j u, (q.map bv)[j]? = some u → w.cell? (x.add j) = some u := by
    intro x q hq j u hj
    simp only [List.getElem?_map, Option.map_eq_some_iff] at hj
    obtain ⟨c, hc, rfl⟩ := hj
    obtain ⟨hk, rfl⟩ := List.getElem?_eq_some_iff.1 hc
    exact (hq j hk).2
  cases ad with
  | none =>
    cases m with
    | nil => simp at h0
    | cons c m => have := (hat 0 (by simp)).1; simp at this
  | some x =>
    have fin : ∀ (old : Nat), (Builtin.append_ #[70, 70] 70 #[.slice a l.length ca, .slice (some x) m.length cb]).run Tryd.prog w =
        .ok (.slice (some ⟨w.heap.size, 0, none⟩) (l.length + m.length) (grownCap w (l.length + m.length) old 5))
          (w.drew.alloc (.cells ((l.map bv).toArray ++ (m.map bv).toArray ++ Builtin.zeroCells #[Value.int .u8 0] (grownCap w (l.length + m.length) old 5 - (l.length + m.length))) 5)) →
        ∃ v' w', (Builtin.append_ #[70, 70] 70 #[.slice a l.length ca, .slice (some x) m.length cb]).run Tryd.prog w = .ok v' w' ∧ Own w' w.heap.size v' (l ++ m) ∧ Below w.heap.size w w' := by
      intro old hr
      have hge := grownCap_ge w (l.length + m.length) old 5
      have hcm := grownCap_le_maxLen w (l.length + m.length) old 5 (by unfold maxLen; omega)
      refine ⟨_, _, hr, ?_, ((Below.refl _ _).drew).alloc (Nat.le_refl _) _⟩
      unfold Own
      rw [List.length_append]
      refine ⟨by simp, .inr ⟨w.heap.size, _, _, rfl, Nat.le_refl _, heap_alloc_new w.drew _, hge, hcm, ?_, ?_⟩⟩
      · simp [Builtin.zeroCells]; omega
      · simp only [Array.toList_append, List.append_assoc, Nat.mul_one]
        rw [← List.append_assoc, List.take_left' (by simp), List.map_append]
    cases a with
    | none =>
      obtain ⟨e1, e2⟩ := hnil rfl
      have hl : l = [] := List.eq_nil_of_length_eq_zero e1
      subst hl e2
      refine fin 0 ?_
      have hr := run_append_nil (P := Tryd.prog) w 70 70 5 i (.int .u8 0) sliceB hi hz0 x m.length cb (m.map bv) (by simp [hz1]) (cells x m hat) (by omega) (by omega) (by rw [hz2]; omega)
      simpa [Value.cells] using hr
    | some b =>
      refine fin ca ?_
      have hr := run_append_grow (P := Tryd.prog) w 70 70 5 i (.int .u8 0) sliceB hi hz0 b l.length ca (l.map bv) (by simp [hz1]) (cells b l hal) x m.length cb (m.map bv) (by simp [hz1]) (cells x m hat) hg (by omega) (growslice_fits hg (by rw [hz2]; omega))
      simpa [Value.cells] using hr

/-- The same of a string behind a slice of the call's own. -/
theorem run_str (w : World) (B : Nat) (v : Value) (l : List UInt8) (hown : Own w B v l) (s : ByteArray) (hlen : l.length + s.size ≤ 140737488355328) (hB : B ≤ w.heap.size) :
    ∃ v' w', (Builtin.append_ #[70, 9] 70 #[v, .string s]).run Tryd.prog w = .ok v' w' ∧ Own w' B v' (l ++ s.data.toList) ∧ w.grownBy w' v.ownBlock := by
  obtain ⟨i, hi, hz0, hz1, hz2⟩ := info_parts infoB
  obtain ⟨v', w', h1, h2, h3, _⟩   := Lib.run_append_own_string (P := Tryd.prog) w B 70 9 70 5 i sliceB (by kernel_rfl) hi hz0 hz1 hz2 v l.length (l.map bv) hown s (by unfold maxLen; omega) hlen hB
  refine ⟨v', w', h1, ?_, h3⟩
  unfold Own
  rw [List.length_append, List.map_append]
  have e : s.data.toList.length = s.size := by simp
  rw [e]
  exact h2

theorem wp_app {o : Oper} {a : Act} {w : World} {K : Act → World → Prop} {Q : Exit → Act → World → Prop} (s x : Operand) (t u ty : TypeId)
    (ho : o.op = .call { callee := .builtin .append, args := #[s, x], argTypes := #[t, u] }) (hty : o.type = ty) {R : Value → World → Prop} (v y : Value) (hs : a.eval s = v) (hx : a.eval x = y)
    (hr : ∃ v' w', (Builtin.append_ #[t, u] ty #[v, y]).run Tryd.prog w = .ok v' w' ∧ R v' w') (h : ∀ v' w', R v' w' → K (a.put o.dst v') w') : o.wp Tryd.prog a w K Q := by
  obtain ⟨v', w', hr, h2⟩ := hr
  unfold Oper.wp execOp
  simp only [ho, resolve, invoke, builtin, Sem.run_bind, Sem.run_pure, Result.andThen_ok, List.map_toArray, List.map_cons, List.map_nil, hs, hx, hty, hr]
  exact h v' w' h2

/-- In a region in the text's order. -/
theorem wpList_app {ops : Array Oper} {rest : List Oper} {o : Oper} {a : Act} {w : World} {Q : Exit → Act → World → Prop} (hw : Region.wanted o (yielded ops a.tmps) = true) (s x : Operand) (t u ty : TypeId)
    (ho : o.op = .call { callee := .builtin .append, args := #[s, x], argTypes := #[t, u] }) (hty : o.type = ty) {R : Value → World → Prop} (v y : Value) (hs : a.eval s = v) (hx : a.eval x = y)
    (hr : ∃ v' w', (Builtin.append_ #[t, u] ty #[v, y]).run Tryd.prog w = .ok v' w' ∧ R v' w') (h : ∀ v' w', R v' w' → wpList Tryd.prog ops Q rest (a.put o.dst v') w') : wpList Tryd.prog ops Q (o :: rest) a w := by
  unfold wpList
  rw [if_pos hw]
  exact .inl (wp_app s x t u ty ho hty v y hs hx hr h)
/-- In a region that draws its order. -/
theorem step_app {ops : Array Oper} {o : Oper} {a : Act} {w : World} {K : Act → World → Prop} {Q : Exit → Act → World → Prop} {E : Prop} (hw : Region.wanted o (yielded ops a.tmps) = true) (s x : Operand) (t u ty : TypeId)
    (ho : o.op = .call { callee := .builtin .append, args := #[s, x], argTypes := #[t, u] }) (hty : o.type = ty) {R : Value → World → Prop} (v y : Value) (hs : a.eval s = v) (hx : a.eval x = y)
    (hr : ∃ v' w', (Builtin.append_ #[t, u] ty #[v, y]).run Tryd.prog w = .ok v' w' ∧ R v' w') (h : ∀ v' w', R v' w' → K (a.put o.dst v') w') : if Region.wanted o (yielded ops a.tmps) = true then Oper.wp Tryd.prog o a w K Q else E := by
  rw [if_pos hw]
  exact wp_app s x t u ty ho hty v y hs hx hr h

/-- A composite literal of bytes turned into bytes: its block is marked behind its end. -/
theorem At.mark {w : World} {c : Array Value} {e : TypeId} {l : List UInt8} (hc : c.toList = l.map bv) (f : Nat × Nat) : At (w.alloc (.cells c e f)) (some ⟨w.heap.size, 0, none⟩) l := by
  intro k hk
  refine ⟨rfl, ?_⟩
  have e1 : adr (some ⟨w.heap.size, 0, none⟩) k = ⟨w.heap.size, k, none⟩ := by simp [adr, Addr.add_lit]
  rw [e1, cell_of_row _ w.heap.size k c e f (heap_alloc_new w _)]
  have : c.toList[k]? = some (bv l[k]) := by rw [hc]; simp [hk]
  simpa [bv] using this

/-- A slice of bytes that came in, as the shell of a proof tells it. -/
theorem row_at {w : World} {a : Option Addr} {len cap : Nat} {zs : List Int}
    (h : (a = none ∧ len = 0 ∧ cap = 0 ∧ zs = []) ∨ ∃ x, a = some x ∧ len ≤ cap ∧ cap ≤ maxLen ∧ zs.length = cap ∧ (∀ i, i < zs.length → w.cell? (x.add i) = some (.int .u8 (zs.getD i 0))) ∧ ∀ n ∈ zs, (Lit.int .u8 n).wf = true) :
    ∃ l : List UInt8, l.length = len ∧ len ≤ cap ∧ len ≤ maxLen ∧ At w a l ∧ (a = none → cap = 0) := by
  rcases h with ⟨rfl, rfl, rfl, rfl⟩ | ⟨x, rfl, hl, hm, hz, hc, hw⟩
  · exact ⟨[], rfl, Nat.le_refl _, by unfold maxLen; omega, At.nil _ _, fun _ => rfl⟩
  · refine ⟨(zs.take len).map fun z => UInt8.ofNat z.toNat, by simp; omega, hl, by omega, ?_, fun e => by cases e⟩
    intro k hk
    simp at hk
    refine ⟨rfl, ?_⟩
    have hk' : k < zs.length := by omega
    have := hc k hk'
    have hb := hw zs[k] (List.getElem_mem hk')
    have hbd : 0 ≤ zs[k] ∧ zs[k] ≤ 255 := by
      simp [Lit.wf, IntKind.min, IntKind.max, IntKind.signed, IntKind.bits] at hb
      omega
    simp only [adr, Option.getD_some, this]
    have e : zs.getD k 0 = zs[k] := by simp [List.getD, hk']
    rw [e]
    simp only [List.getElem_map, List.getElem_take, UInt8.toNat_ofNat']
    congr 2
    omega

theorem Own.form {w : World} {B : Nat} {v : Value} {l : List UInt8} (h : Own w B v l) (h0 : 0 < l.length) :
    ∃ g cap, v = .slice (some ⟨g, 0, none⟩) l.length cap ∧ B ≤ g ∧ g < w.heap.size ∧ l.length ≤ cap ∧ cap ≤ maxLen := by
  obtain ⟨_, h⟩ := h
  rcases h with ⟨rfl, h1⟩ | ⟨g, cap, cur, rfl, hB, hg, h1, h2, _⟩
  · omega
  · exact ⟨g, cap, rfl, hB, (Array.getElem?_eq_some_iff.1 hg).1, h1, h2⟩
theorem Own.cellAt {w : World} {B g cap n : Nat} {l : List UInt8} (h : Own w B (.slice (some ⟨g, 0, none⟩) n cap) l) (hn : l.length = n) (k : Nat) (hk : k < l.length) : w.cell? ⟨g, k, none⟩ = some (bv l[k]) := by
  subst hn
  rw [World.ownsRow.cellAt h k (by omega)]; simp [hk]
theorem Own.frz {w : World} {B g cap n : Nat} {l : List UInt8} (h : Own w B (.slice (some ⟨g, 0, none⟩) n cap) l) (hn : l.length = n) (k : Nat) : w.frozen? ⟨g, k, none⟩ = false := by
  subst hn
  exact World.ownsRow.frozenAt h k
theorem Own.set {w : World} {B g cap n : Nat} {l : List UInt8} (h : Own w B (.slice (some ⟨g, 0, none⟩) n cap) l) (hn : l.length = n) (k : Nat) (d : UInt8) :
    Own (w.setCell ⟨g, k, none⟩ (bv d)) B (.slice (some ⟨g, 0, none⟩) n cap) (l.set k d) := by
  subst hn
  have := World.ownsRow.stored h k (bv d)
  unfold Own
  rw [List.length_set, List.map_set]
  exact this.1
theorem Own.grown {w w' : World} {B : Nat} {v : Value} {l : List UInt8} {row : Option Nat} (h : Own w B v l) (hg : w.grownBy w' row) (hne : v.ownBlock = none ∨ v.ownBlock ≠ row) : Own w' B v l := World.ownsRow.kept h hg hne
/-- Below what is one's own nothing turns by an append to it. -/
theorem Own.below {w w' : World} {B : Nat} {v : Value} {l : List UInt8} (h : Own w B v l) (hB : B ≤ w.heap.size) (hg : w.grownBy w' v.ownBlock) : Below B w w' :=
  ⟨hg.os, hg.tape, hg.output, hg.size, fun k hk => hg.block k (by omega) (fun e => by have := (World.ownsRow.lt h k e.symm).1; omega)⟩
/-- What is one's own stays so while others make memory. -/
theorem Own.stay {w w' : World} {B : Nat} {v : Value} {l : List UInt8} (h : Own w B v l) (hb : Below w.heap.size w w') : Own w' B v l := by
  refine ⟨h.1, ?_⟩
  rcases h.2 with hn | ⟨g, cap, cur, rfl, h1, hg, rest⟩
  · exact .inl hn
  · refine .inr ⟨g, cap, cur, rfl, h1, ?_, rest⟩
    rw [hb.block g (Array.getElem?_eq_some_iff.1 hg).1]; exact hg
theorem Own.base {w : World} {B C : Nat} {v : Value} {l : List UInt8} (h : Own w B v l) (hC : C ≤ B) : Own w C v l := by
  refine ⟨h.1, ?_⟩
  rcases h.2 with hn | ⟨g, cap, cur, rfl, h1, rest⟩
  · exact .inl hn
  · exact .inr ⟨g, cap, cur, rfl, by omega, rest⟩

/-- `make([]byte, n)`. -/
theorem run_make (w : World) (n : Nat) (hn : n ≤ 140737488355328) :
    ∃ v' w', (Instr.makeSlice 70 (.int .i64 (n : Int)) (.int .i64 (n : Int))).run Tryd.prog w = .ok v' w' ∧ (v' = .slice (some ⟨w.heap.size, 0, none⟩) n n ∧ Own w' w.heap.size v' (List.replicate n 0) ∧ Below w.heap.size w w') := by
  obtain ⟨i, hi, hz0, hz1, hz2⟩ := info_parts infoB
  obtain ⟨w', hr, h1, h2⟩ := run_make_full (P := Tryd.prog) w w.heap.size 70 5 i (.int .u8 0) 1 sliceB hi hz0 hz1 .i64 .i64 n (by rw [hz2]; omega) (by unfold maxLen; omega) (Nat.le_refl _)
  refine ⟨_, w', hr, rfl, ?_, ⟨h2.os, h2.tape, h2.output, h2.size, fun k hk => h2.block k hk (by simp)⟩⟩
  unfold Own
  rw [List.length_replicate]
  have e : (madeCells (Value.int .u8 0).cells (n * 1)).toList = (List.replicate n (0 : UInt8)).map bv := by
    apply List.ext_getElem
    · simp [size_madeCells]
    · intro k h1 h2
      simp [madeCells, Value.cells, bv, Nat.mod_one]
  rw [← e]
  exact h1
theorem wp_make {o : Oper} {a : Act} {w : World} {K : Act → World → Prop} {Q : Exit → Act → World → Prop} (s x : Operand) (t : TypeId)
    (ho : o.op = .makeSlice t s x) {R : Value → World → Prop} (v y : Value) (hs : a.eval s = v) (hx : a.eval x = y)
    (hr : ∃ v' w', (Instr.makeSlice t v y).run Tryd.prog w = .ok v' w' ∧ R v' w') (h : ∀ v' w', R v' w' → K (a.put o.dst v') w') : o.wp Tryd.prog a w K Q := by
  obtain ⟨v', w', hr, h2⟩ := hr
  unfold Oper.wp execOp
  simp only [ho, Sem.run_bind, hs, hx, hr, Result.andThen_ok]
  exact h v' w' h2
theorem wpList_make {ops : Array Oper} {rest : List Oper} {o : Oper} {a : Act} {w : World} {Q : Exit → Act → World → Prop} (hw : Region.wanted o (yielded ops a.tmps) = true) (s x : Operand) (t : TypeId)
    (ho : o.op = .makeSlice t s x) {R : Value → World → Prop} (v y : Value) (hs : a.eval s = v) (hx : a.eval x = y)
    (hr : ∃ v' w', (Instr.makeSlice t v y).run Tryd.prog w = .ok v' w' ∧ R v' w') (h : ∀ v' w', R v' w' → wpList Tryd.prog ops Q rest (a.put o.dst v') w') : wpList Tryd.prog ops Q (o :: rest) a w := by
  unfold wpList
  rw [if_pos hw]
  exact .inl (wp_make s x t ho v y hs hx hr h)

/-- `append(nil, x...)`: what is got is the call's own. -/
theorem run_app0 (w : World) (ad : Option Addr) (m : List UInt8) (n cb : Nat) (hn : m.length = n) (hat : At w ad m) (hlen : n ≤ 140737488355328) :
    ∃ v' w', (Builtin.append_ #[70, 70] 70 #[.slice none 0 0, .slice ad n cb]).run Tryd.prog w = .ok v' w' ∧ (Own w' w.heap.size v' m ∧ Below w.heap.size w w') := by
  obtain ⟨v', w', h1, h2, h3⟩ := run_app 70 w w.heap.size _ [] (Own.nil _ _) ad m n cb hn hat (by simpa using hlen) (Nat.le_refl _)
  exact ⟨v', w', h1, by simpa using h2, (Own.nil w w.heap.size).below (Nat.le_refl _) h3⟩
theorem run_app1 (w : World) (B : Nat) (v : Value) (l : List UInt8) (hown : Own w B v l) (ad : Option Addr) (m : List UInt8) (n cb : Nat) (hn : m.length = n) (hat : At w ad m)
    (hlen : l.length + n ≤ 140737488355328) (hB : B ≤ w.heap.size) :
    ∃ v' w', (Builtin.append_ #[70, 70] 70 #[v, .slice ad n cb]).run Tryd.prog w = .ok v' w' ∧ (Own w' B v' (l ++ m) ∧ Below B w w') := by
  obtain ⟨v', w', h1, h2, h3⟩ := run_app 70 w B v l hown ad m n cb hn hat hlen hB
  exact ⟨v', w', h1, h2, hown.below hB h3⟩

/-- What is one's own, written out: its block, and what a walk may want of it. -/
structure OwnAt (w : World) (B : Nat) (g cap : Nat) (l : List UInt8) : Prop where
  own : Own w B (.slice (some ⟨g, 0, none⟩) l.length cap) l
  ge : B ≤ g
  lt : g < w.heap.size
  room : l.length ≤ cap
  small : cap ≤ maxLen
theorem Own.at {w : World} {B : Nat} {v : Value} {l : List UInt8} (h : Own w B v l) (h0 : 0 < l.length) : ∃ g cap, v = .slice (some ⟨g, 0, none⟩) l.length cap ∧ OwnAt w B g cap l := by
  obtain ⟨g, cap, rfl, h1, h2, h3, h4⟩ := h.form h0
  exact ⟨g, cap, rfl, h, h1, h2, h3, h4⟩
theorem OwnAt.sl {w : World} {B g cap : Nat} {l : List UInt8} (h : OwnAt w B g cap l) : At w (some ⟨g, 0, none⟩) l := by
  obtain ⟨a, c, e, _, _, ha⟩ := h.own.sl
  cases e; exact ha
theorem OwnAt.stay {w w' : World} {B g cap : Nat} {l : List UInt8} (h : OwnAt w B g cap l) (hb : Below w.heap.size w w') : OwnAt w' B g cap l :=
  ⟨h.own.stay hb, h.ge, Nat.lt_of_lt_of_le h.lt hb.size, h.room, h.small⟩
theorem OwnAt.set {w : World} {B g cap : Nat} {l : List UInt8} (h : OwnAt w B g cap l) (k : Nat) (d : UInt8) : OwnAt (w.setCell ⟨g, k, none⟩ (bv d)) B g cap (l.set k d) := by
  refine ⟨?_, h.ge, by simpa [World.setCell] using h.lt, by simpa using h.room, h.small⟩
  have := h.own.set rfl k d
  rwa [List.length_set]
theorem OwnAt.cell {w : World} {B g cap : Nat} {l : List UInt8} (h : OwnAt w B g cap l) {k : Nat} (hk : k < l.length) : w.cell? ⟨g, k, none⟩ = some (bv l[k]) := h.own.cellAt rfl k hk
theorem OwnAt.frz {w : World} {B g cap : Nat} {l : List UInt8} (h : OwnAt w B g cap l) (k : Nat) : w.frozen? ⟨g, k, none⟩ = false := h.own.frz rfl k

theorem idx_own (g n cap k : Nat) (i : Int) (hi : i = (k : Int)) (hk : k < n) (wx : World) :
    (Instr.indexAt 70 (.slice (some ⟨g, 0, none⟩) n cap) (.int .i64 i)).run Tryd.prog wx = .ok (.pointer (some ⟨g, k, none⟩)) wx := by
  rw [idx_at (some ⟨g, 0, none⟩) n cap (fun _ => rfl) k i hi hk wx]
  simp [adr, Addr.add_lit]
theorem xor_u8 (x y : UInt8) : bits .xor .u8 (x.toNat : Int) (y.toNat : Int) = ((x ^^^ y).toNat : Int) := by
  have hx := x.toNat_lt
  have hy := y.toNat_lt
  have h : x.toNat ^^^ y.toNat < 256 := Nat.xor_lt_two_pow (n := 8) (by omega) (by omega)
  have e1 : IntKind.u8.bits = 8 := rfl
  simp only [bits, e1, BitVec.ofInt_natCast, BitVec.toNat_xor, BitVec.toNat_ofNat, UInt8.toNat_xor]
  rw [Nat.mod_eq_of_lt (by omega), Nat.mod_eq_of_lt (by omega), IntKind.wrap_u8]
  omega
/-- A byte that came in. -/
theorem u8_of (n : Int) (h : 0 ≤ n ∧ n ≤ 255) : ∃ c : UInt8, n = (c.toNat : Int) := ⟨UInt8.ofNat n.toNat, by rw [UInt8.toNat_ofNat']; omega⟩
theorem u8_wf {n : Int} (h : (Lit.int .u8 n).wf = true) : 0 ≤ n ∧ n ≤ 255 := by
  simp [Lit.wf, IntKind.min, IntKind.max, IntKind.signed, IntKind.bits] at h
  omega
theorem i64_wf {n : Int} (h : (Lit.int .i64 n).wf = true) : -9223372036854775808 ≤ n ∧ n ≤ 9223372036854775807 := by
  simp [Lit.wf, IntKind.min, IntKind.max, IntKind.signed, IntKind.bits] at h
  omega

/-- `append(v, c)` of one byte: the translation lays it in a block of its own first. -/
theorem run_one (w : World) (B : Nat) (v : Value) (l : List UInt8) (hown : Own w B v l) (x : UInt8) (c : Array Value) (hc : c.toList = [bv x]) (hlen : l.length + 1 ≤ 140737488355328) (hB : B ≤ w.heap.size) :
    ∃ v' w', (Builtin.append_ #[70, 70] 70 #[v, .slice (some ⟨w.heap.size, 0, none⟩) 1 1]).run Tryd.prog (w.alloc (.cells c 5)) = .ok v' w' ∧ (Own w' B v' (l ++ [x]) ∧ Below B w w') := by
  have hn := own_new w w.heap.size [x] c 1 rfl (by simpa using hc) (by simp [maxLen]) (Nat.le_refl _)
  obtain ⟨a, cap, e1, _, _, hat⟩ := hn.sl
  cases e1
  have hb : Below w.heap.size w (w.alloc (.cells c 5)) := (Below.refl _ _).alloc (Nat.le_refl _) _
  obtain ⟨v', w', h1, h2, h3⟩ := run_app1 (w.alloc (.cells c 5)) B v l (hown.stay hb) _ [x] 1 1 rfl hat hlen (by simp; omega)
  exact ⟨v', w', h1, h2, (hb.mono hB).trans h3⟩

/-- The same, the new block's number given. -/
theorem run_oneG (w : World) (g : Nat) (hg : g = w.heap.size) (B : Nat) (v : Value) (l : List UInt8) (hown : Own w B v l) (x : UInt8) (c : Array Value) (hc : c.toList = [bv x]) (hlen : l.length + 1 ≤ 140737488355328) (hB : B ≤ g) :
    ∃ v' w', (Builtin.append_ #[70, 70] 70 #[v, .slice (some ⟨g, 0, none⟩) 1 1]).run Tryd.prog (w.alloc (.cells c 5)) = .ok v' w' ∧ (Own w' B v' (l ++ [x]) ∧ Below B w w') := by
  subst hg
  exact run_one w B v l hown x c hc hlen hB

end Go.Proofs.YtjfbmgndekfglaaDoor

namespace Go.Proofs.YtjfbmgndekfglaaDoor
set_option linter.unusedVariables false
set_option linter.unusedSimpArgs false
open Go.RowKit

/-- How an element lies in memory: the slice's type, the element's, its cells, its bytes, its zero value, the cells of a datum. -/
structure Elt (α : Type) where
  T : TypeId
  E : TypeId
  s : Nat
  byt : Nat
  z : Value
  enc : α → List Value
structure Elt.Ok {α : Type} (e : Elt α) : Prop where
  len : ∀ x, (e.enc x).length = e.s
  one : ∀ x, ∀ u ∈ e.enc x, u.oneCell' = true
  pos : 0 < e.s
  under : Tryd.prog.underlying e.T = some (.slice e.E)
  info : (Tryd.prog.info? e.E).map (fun i => (i.zero, i.size, i.bytes)) = some (some e.z, e.s, e.byt)
  zc : e.z.cells.size = e.s

section
variable {α : Type} {e : Elt α}

theorem flat_get (he : e.Ok) : ∀ (l : List α) (k j : Nat) (hk : k < l.length), j < e.s → (l.flatMap e.enc)[k * e.s + j]? = (e.enc l[k])[j]?
  | [], k, j, hk, _ => by simp at hk
  | x :: l, 0, j, hk, hj => by
    rw [List.flatMap_cons, Nat.zero_mul, Nat.zero_add, List.getElem?_append_left (by rw [he.len]; exact hj)]; rfl
  | x :: l, k + 1, j, hk, hj => by
    rw [List.flatMap_cons, List.getElem?_append_right (by rw [he.len, Nat.add_mul]; omega), he.len, show (k + 1) * e.s + j - e.s = k * e.s + j by rw [Nat.add_mul]; omega]
    rw [flat_get he l k j (by simpa using hk) hj]; rfl
theorem flat_len (he : e.Ok) : ∀ (l : List α), (l.flatMap e.enc).length = l.length * e.s
  | [] => by simp
  | x :: l => by rw [List.flatMap_cons, List.length_append, he.len, flat_len he l, List.length_cons, Nat.add_mul]; omega
theorem flat_split {s p : Nat} (hs : 0 < s) : ∃ k j, p = k * s + j ∧ j < s := ⟨p / s, p % s, (Nat.div_add_mod' p s).symm, Nat.mod_lt _ hs⟩

/-- The elements `l` stand behind the head `a`. -/
def AtG (e : Elt α) (w : World) (a : Option Addr) (l : List α) : Prop :=
  ∀ k (h : k < l.length), a.isSome = true ∧ ∀ j, j < e.s → w.cell? (adr a (k * e.s + j)) = (e.enc l[k])[j]?

theorem AtG.ok {w : World} {a : Option Addr} {l : List α} (h : AtG e w a l) (hl : 0 < l.length) : a.isSome = true := (h 0 hl).1
theorem AtG.nil (w : World) (a : Option Addr) : AtG e w a [] := by intro k hk; simp at hk
theorem AtG.take {w : World} {a : Option Addr} {l : List α} (h : AtG e w a l) (n : Nat) : AtG e w a (l.take n) := by
  intro k hk
  obtain ⟨h1, h2⟩ := h k (by simp at hk; omega)
  exact ⟨h1, by intro j hj; rw [h2 j hj]; simp⟩
theorem AtG.drop {w : World} {a : Option Addr} {l : List α} (h : AtG e w a l) (n : Nat) : AtG e w (a.map (·.add (n * e.s))) (l.drop n) := by
  intro k hk
  simp at hk
  obtain ⟨h1, h2⟩ := h (n + k) (by omega)
  refine ⟨by simpa using h1, ?_⟩
  intro j hj
  rw [adr_add, if_pos h1, show n * e.s + (k * e.s + j) = (n + k) * e.s + j by rw [Nat.add_mul]; omega, h2 j hj]; simp
def cutG (e : Elt α) (a : Option Addr) (lo cap : Nat) : Option Addr := if cap = lo then a else a.map (·.add (lo * e.s))
theorem AtG.cut {w : World} {a : Option Addr} {l : List α} (h : AtG e w a l) (lo n cap : Nat) (hm : n ≤ cap - lo) : AtG e w (cutG e a lo cap) ((l.drop lo).take n) := by
  unfold cutG
  split
  · rename_i e
    rw [show n = 0 by omega]
    exact AtG.nil _ _
  · exact (h.drop lo).take n
theorem AtG.below {w w' : World} {a : Option Addr} {l : List α} (h : AtG e w a l) {B : Nat} (hb : Below B w w') (ha : ∀ x, a = some x → x.block < B) : AtG e w' a l := by
  intro k hk
  obtain ⟨h1, h2⟩ := h k hk
  refine ⟨h1, fun j hj => ?_⟩
  obtain ⟨x, rfl⟩ := Option.isSome_iff_exists.1 h1
  have ee : (adr (some x) (k * e.s + j)).block = x.block := by simp [adr]; unfold Addr.add; split <;> rfl
  rw [← h2 j hj]
  exact hb.cell (by rw [ee]; exact ha x rfl)
theorem AtG.lt {w : World} {a : Option Addr} {l : List α} (he : e.Ok) (h : AtG e w a l) (hl : 0 < l.length) : ∀ x, a = some x → x.block < w.heap.size := by
  rintro x rfl
  have h2 := (h 0 hl).2 0 he.pos
  have ee : adr (some x) (0 * e.s + 0) = x := by simp [adr, Addr.add]
  rw [ee] at h2
  have h3 : 0 < (e.enc l[0]).length := by rw [he.len]; exact he.pos
  rw [List.getElem?_eq_getElem h3] at h2
  exact World.block_lt_of_cell? w x h2
theorem AtG.all {w w' : World} {a : Option Addr} {l : List α} (he : e.Ok) (h : AtG e w a l) (hb : Below w.heap.size w w') : AtG e w' a l := by
  intro k hk
  exact (h.below hb (h.lt he (by omega))) k hk
theorem AtG.drewN {w : World} {a : Option Addr} {l : List α} (h : AtG e w a l) (n : Nat) : AtG e (w.drewN n) a l := h

/-- A slice as it lies in a world. -/
def SlG (e : Elt α) (w : World) (v : Value) (l : List α) : Prop := ∃ a cap, v = .slice a l.length cap ∧ l.length ≤ cap ∧ cap ≤ maxLen ∧ (a = none → cap = 0) ∧ AtG e w a l
/-- A slice of the call's own. -/
def OwnG (e : Elt α) (w : World) (B : Nat) (v : Value) (l : List α) : Prop := w.ownsRow B e.E e.s v l.length (l.flatMap e.enc)
theorem OwnG.nil (w : World) (B : Nat) : OwnG e w B (.slice none 0 0) [] := World.ownsRow_nil _ _ _ _
theorem OwnG.sl {w : World} {B : Nat} {v : Value} {l : List α} (he : e.Ok) (h : OwnG e w B v l) : SlG e w v l := by
  obtain ⟨_, h⟩ := h
  rcases h with ⟨rfl, h0⟩ | ⟨g, cap, cur, rfl, hB, hg, h1, h2, h3, h4⟩
  · refine ⟨none, 0, by rw [h0], by omega, by unfold maxLen; omega, fun _ => rfl, ?_⟩
    intro k hk; omega
  · refine ⟨some ⟨g, 0, none⟩, cap, rfl, h1, h2, (fun e => by cases e), ?_⟩
    intro k hk
    refine ⟨rfl, fun j hj => ?_⟩
    have ee : adr (some ⟨g, 0, none⟩) (k * e.s + j) = ⟨g, k * e.s + j, none⟩ := by simp [adr, Addr.add_lit]
    rw [ee, cell_of_row w g (k * e.s + j) cur e.E (0, 0) hg]
    have h5 := flat_get he l k j hk hj
    rw [← h4, List.getElem?_take] at h5
    have hlt : k * e.s + j < l.length * e.s := by
      have : (k + 1) * e.s ≤ l.length * e.s := Nat.mul_le_mul_right _ hk
      rw [Nat.add_mul] at this; omega
    rw [if_pos hlt] at h5
    simpa using h5
theorem OwnG.stay {w w' : World} {B : Nat} {v : Value} {l : List α} (h : OwnG e w B v l) (hb : Below w.heap.size w w') : OwnG e w' B v l := by
  refine ⟨h.1, ?_⟩
  rcases h.2 with hn | ⟨g, cap, cur, rfl, h1, hg, rest⟩
  · exact .inl hn
  · refine .inr ⟨g, cap, cur, rfl, h1, ?_, rest⟩
    rw [hb.block g (Array.getElem?_eq_some_iff.1 hg).1]; exact hg
theorem OwnG.base {w : World} {B C : Nat} {v : Value} {l : List α} (h : OwnG e w B v l) (hC : C ≤ B) : OwnG e w C v l := by
  refine ⟨h.1, ?_⟩
  rcases h.2 with hn | ⟨g, cap, cur, rfl, h1, rest⟩
  · exact .inl hn
  · exact .inr ⟨g, cap, cur, rfl, by omega, rest⟩
theorem OwnG.below {w w' : World} {B : Nat} {v : Value} {l : List α} (h : OwnG e w B v l) (hB : B ≤ w.heap.size) (hg : w.grownBy w' v.ownBlock) : Below B w w' :=
  ⟨hg.os, hg.tape, hg.output, hg.size, fun k hk => hg.block k (by omega) (fun e => by have := (World.ownsRow.lt h k e.symm).1; omega)⟩
theorem OwnG.grown {w w' : World} {B : Nat} {v : Value} {l : List α} {row : Option Nat} (h : OwnG e w B v l) (hg : w.grownBy w' row) (hne : v.ownBlock = none ∨ v.ownBlock ≠ row) : OwnG e w' B v l := World.ownsRow.kept h hg hne

theorem ownG_new (he : e.Ok) (w : World) (B : Nat) (l : List α) (c : Array Value) (n : Nat) (hn : n = l.length) (hc : c.toList = l.flatMap e.enc) (hm : l.length ≤ maxLen) (hB : B ≤ w.heap.size) :
    OwnG e (w.alloc (.cells c e.E)) B (.slice (some ⟨w.heap.size, 0, none⟩) n n) l := by
  subst hn
  have hs : c.size = l.length * e.s := by rw [← Array.length_toList, hc, flat_len he]
  refine ⟨flat_len he l, .inr ⟨w.heap.size, l.length, c, rfl, hB, heap_alloc_new w _, Nat.le_refl _, hm, hs, ?_⟩⟩
  rw [hc, List.take_of_length_le (by rw [flat_len he]; exact Nat.le_refl _)]

theorem sizeG (he : e.Ok) (w : World) : (sizeOf (Tryd.prog.elem e.T)).run Tryd.prog w = .ok e.s w := by
  obtain ⟨i, hi, hz0, hz1, hz2⟩ := info_parts he.info
  have hel : Tryd.prog.elem e.T = e.E := by
    have := he.under
    simp [Program.elem, this]
  rw [hel]
  simp [sizeOf, typeInfo, hi, hz1]
theorem underG (he : e.Ok) : Tryd.prog.underlying e.T = some (.slice (Tryd.prog.elem e.T)) := by
  have := he.under
  simp [Program.elem, this]

theorem idxG (he : e.Ok) (a : Option Addr) (n cap : Nat) (hn : 0 < n → a.isSome = true) (k : Nat) (i : Int) (hi : i = (k : Int)) (hk : k < n) (wx : World) :
    (Instr.indexAt e.T (.slice a n cap) (.int .i64 i)).run Tryd.prog wx = .ok (.pointer (some (adr a (k * e.s)))) wx := by
  subst hi
  cases a with
  | none => simp at hn; omega
  | some a =>
    rw [run_indexAt_slice (h := underG he), if_pos ⟨by omega, by omega⟩, sizeG he]
    simp [Result.andThen, adr]
theorem cutG_lh (he : e.Ok) (a : Option Addr) (n cap lo hi : Nat) (i j : Int) (ei : i = lo) (ej : j = hi) (h1 : lo ≤ hi) (h2 : hi ≤ cap) (wx : World) :
    (Instr.slice e.T (.slice a n cap) (some (.int .i64 i)) (some (.int .i64 j)) none).run Tryd.prog wx = .ok (.slice (cutG e a lo cap) (hi - lo) (cap - lo)) wx := by
  subst ei ej
  rw [run_slice_lh wx _ a n cap (underG he) .i64 .i64 lo hi (by omega) (by omega) (by omega), sizeG he]
  simp [Result.andThen, sliced, cutG]
theorem cutG_h (he : e.Ok) (a : Option Addr) (n cap hi : Nat) (j : Int) (ej : j = hi) (h2 : hi ≤ cap) (wx : World) :
    (Instr.slice e.T (.slice a n cap) none (some (.int .i64 j)) none).run Tryd.prog wx = .ok (.slice (cutG e a 0 cap) hi cap) wx := by
  subst ej
  rw [run_slice_h wx _ a n cap (underG he) .i64 hi (by omega) (by omega), sizeG he]
  simp [Result.andThen, sliced, cutG]

/-- The cells of a source, as the laws on append ask for them. -/
theorem AtG.cells (he : e.Ok) {w : World} {x : Addr} {l : List α} (h : AtG e w (some x) l) : ∀ p u, (l.flatMap e.enc)[p]? = some u → w.cell? (x.add p) = some u := by
  intro p u hp
  obtain ⟨k, j, rfl, hj⟩ := flat_split (p := p) he.pos
  have hlt := (List.getElem?_eq_some_iff.1 hp).1
  rw [flat_len he] at hlt
  have hk : k < l.length := by
    rcases Nat.lt_or_ge k l.length with h | h
    · exact h
    · have := Nat.mul_le_mul_right e.s h; omega
  rw [flat_get he l k j hk hj] at hp
  have := (h k hk).2 j hj
  rw [hp] at this
  simpa [adr] using this
theorem flat_one (he : e.Ok) (l : List α) : ∀ u ∈ l.flatMap e.enc, u.oneCell' = true := by
  intro u hu
  obtain ⟨x, _, hx⟩ := List.mem_flatMap.1 hu
  exact he.one x u hx

theorem runG_app (he : e.Ok) (w : World) (B : Nat) (v : Value) (l : List α) (hown : OwnG e w B v l) (ad : Option Addr) (m : List α) (n cb : Nat) (hn : m.length = n) (hat : AtG e w ad m)
    (hlen : (l.length + n) * e.byt ≤ 140737488355328) (h63 : l.length + n ≤ maxLen) (hB : B ≤ w.heap.size) :
    ∃ v' w', (Builtin.append_ #[e.T, e.T] e.T #[v, .slice ad n cb]).run Tryd.prog w = .ok v' w' ∧ (OwnG e w' B v' (l ++ m) ∧ w.grownBy w' v.ownBlock ∧ Below B w w') := by
  subst hn
  obtain ⟨i, hi, hz0, hz1, hz2⟩ := info_parts he.info
  cases ad with
  | some x =>
    obtain ⟨v', w', h1, h2, h3, _⟩ := run_append_own (P := Tryd.prog) w B e.T e.T e.E i e.z e.s e.byt he.under hi hz0 hz1 hz2 he.zc he.pos v l.length (l.flatMap e.enc) hown x m.length cb (m.flatMap e.enc) (flat_len he m)
      (AtG.cells he hat) (flat_one he m) h63 hlen hB
    refine ⟨v', w', h1, ?_, h3, hown.below hB h3⟩
    unfold OwnG
    rw [List.length_append, List.flatMap_append]
    exact h2
  | none =>
    have hm : m = [] := by
      cases m with
      | nil => rfl
      | cons c m => have := (hat 0 (by simp)).1; simp at this
    subst hm
    refine ⟨v, w, ?_, by simpa using hown, ⟨rfl, rfl, rfl, Nat.le_refl _, fun _ _ _ => rfl⟩, Below.refl _ _⟩
    rcases hown.2 with ⟨rfl, h0⟩ | ⟨g, cap, cur, rfl, _, _, hnc, _⟩
    · simp [Builtin.append_, run_underlying he.under, sizeOf, typeInfo, hi, Builtin.lenOf, Builtin.firstCells]
    · simp [Builtin.append_, run_underlying he.under, sizeOf, typeInfo, hi, Builtin.lenOf, Builtin.firstCells, hnc, storeCells]
/-- `append(v, x)` of one element: the translation lays it in a block of its own first. -/
theorem runG_app1 (he : e.Ok) (w : World) (B : Nat) (v : Value) (l : List α) (hown : OwnG e w B v l) (x : α) (c : Array Value) (hc : c.toList = e.enc x)
    (hlen : (l.length + 1) * e.byt ≤ 140737488355328) (h63 : l.length + 1 ≤ maxLen) (hB : B ≤ w.heap.size) :
    ∃ v' w', (Builtin.append_ #[e.T, e.T] e.T #[v, .slice (some ⟨w.heap.size, 0, none⟩) 1 1]).run Tryd.prog (w.alloc (.cells c e.E)) = .ok v' w' ∧ (OwnG e w' B v' (l ++ [x]) ∧ Below B w w') := by
  have hn := ownG_new he w w.heap.size [x] c 1 rfl (by simpa using hc) (by simp [maxLen]) (Nat.le_refl _)
  obtain ⟨a, cap, e1, _, _, _, hat⟩ := hn.sl he
  cases e1
  have hb : Below w.heap.size w (w.alloc (.cells c e.E)) := (Below.refl _ _).alloc (Nat.le_refl _) _
  obtain ⟨v', w', h1, h2, _, h3⟩ := runG_app he (w.alloc (.cells c e.E)) B v l (hown.stay hb) _ [x] 1 1 rfl hat hlen h63 (by simp; omega)
  exact ⟨v', w', h1, h2, (hb.mono hB).trans h3⟩
theorem runG_app1G (he : e.Ok) (w : World) (g : Nat) (hg : g = w.heap.size) (B : Nat) (v : Value) (l : List α) (hown : OwnG e w B v l) (x : α) (c : Array Value) (hc : c.toList = e.enc x)
    (hlen : (l.length + 1) * e.byt ≤ 140737488355328) (h63 : l.length + 1 ≤ maxLen) (hB : B ≤ g) :
    ∃ v' w', (Builtin.append_ #[e.T, e.T] e.T #[v, .slice (some ⟨g, 0, none⟩) 1 1]).run Tryd.prog (w.alloc (.cells c e.E)) = .ok v' w' ∧ (OwnG e w' B v' (l ++ [x]) ∧ Below B w w') := by
  subst hg
  exact runG_app1 he w B v l hown x c hc hlen h63 hB
/-- Where what an append gives lies: where it lay, or in a new block. -/
theorem runG_block (he : e.Ok) (w : World) (B : Nat) (v : Value) (l : List α) (hown : OwnG e w B v l) (ad : Option Addr) (m : List α) (n cb : Nat) (hn : m.length = n) (hat : AtG e w ad m)
    (hlen : (l.length + n) * e.byt ≤ 140737488355328) (h63 : l.length + n ≤ maxLen) {v' : Value} {w' : World} (hr : (Builtin.append_ #[e.T, e.T] e.T #[v, .slice ad n cb]).run Tryd.prog w = .ok v' w') :
    v'.ownBlock = v.ownBlock ∨ v'.ownBlock = some w.heap.size := by
  subst hn
  obtain ⟨i, hi, hz0, hz1, hz2⟩ := info_parts he.info
  have h63' : l.length + m.length ≤ 9223372036854775807 := by unfold maxLen at h63; omega
  by_cases hm : m = []
  · subst hm
    left
    have : (Builtin.append_ #[e.T, e.T] e.T #[v, .slice ad ([] : List α).length cb]).run Tryd.prog w = .ok v w := by
      rcases hown.2 with ⟨rfl, h0⟩ | ⟨g, cap, cur, rfl, _, _, hnc, _⟩
      · cases ad <;> simp [Builtin.append_, run_underlying he.under, sizeOf, typeInfo, hi, Builtin.lenOf, Builtin.firstCells, loadCells, loadCellsFrom]
      · cases ad <;> simp [Builtin.append_, run_underlying he.under, sizeOf, typeInfo, hi, Builtin.lenOf, Builtin.firstCells, hnc, storeCells, loadCells, loadCellsFrom]
    rw [this] at hr
    cases hr; rfl
  · have hpos : 0 < m.length := List.length_pos_iff.2 hm
    obtain ⟨x, rfl⟩ := Option.isSome_iff_exists.1 (hat 0 hpos).1
    rcases hown.2 with ⟨rfl, h0⟩ | ⟨g, cap, cur, rfl, hB, hg, hnc, hcm, hcs, htake⟩
    · right
      have hr2 := run_append_nil (P := Tryd.prog) w e.T e.T e.E i e.z he.under hi hz0 x m.length cb (m.flatMap e.enc) (by rw [hz1]; exact flat_len he m) (AtG.cells he hat) hpos (by omega) (by rw [hz2]; rw [h0, Nat.zero_add] at hlen; omega)
      rw [hr2] at hr
      cases hr; rfl
    · by_cases hroom : l.length + m.length ≤ cap
      · left
        have hfit : l.length * i.size + (m.flatMap e.enc).length ≤ cur.size := by rw [flat_len he, hz1, hcs, ← Nat.add_mul]; exact Nat.mul_le_mul_right _ hroom
        have hr2 := run_append_room (P := Tryd.prog) w e.T e.T e.E i he.under hi g l.length cap cur hg x m.length cb (m.flatMap e.enc) (by rw [hz1]; exact flat_len he m) (AtG.cells he hat) (flat_one he m) hroom hfit
        rw [hr2] at hr
        cases hr; rfl
      · right
        have hc : ∀ j u, (l.flatMap e.enc)[j]? = some u → w.cell? ((⟨g, 0, none⟩ : Addr).add j) = some u := World.ownsRow.cells hown (g := g) rfl
        have hr2 := run_append_grow (P := Tryd.prog) w e.T e.T e.E i e.z he.under hi hz0 ⟨g, 0, none⟩ l.length cap (l.flatMap e.enc) (by rw [hz1]; exact flat_len he l) hc x m.length cb (m.flatMap e.enc) (by rw [hz1]; exact flat_len he m) (AtG.cells he hat) (by omega) (by omega) (growslice_fits (by omega) (by rw [hz2]; exact hlen))
        rw [hr2] at hr
        cases hr; rfl
/-- All that an append to a slice of one's own leaves. -/
structure Apped (e : Elt α) (w w' : World) (B : Nat) (v v' : Value) (l : List α) : Prop where
  own : OwnG e w' B v' l
  below : Below B w w'
  keep : ∀ b, b < w.heap.size → v.ownBlock ≠ some b → w'.heap[b]? = w.heap[b]?
  blk : ∀ g, v'.ownBlock = some g → v.ownBlock = some g ∨ w.heap.size ≤ g
theorem runG_full (he : e.Ok) (w : World) (B : Nat) (v : Value) (l : List α) (hown : OwnG e w B v l) (ad : Option Addr) (m : List α) (n cb : Nat) (hn : m.length = n) (hat : AtG e w ad m)
    (hlen : (l.length + n) * e.byt ≤ 140737488355328) (h63 : l.length + n ≤ maxLen) (hB : B ≤ w.heap.size) :
    ∃ v' w', (Builtin.append_ #[e.T, e.T] e.T #[v, .slice ad n cb]).run Tryd.prog w = .ok v' w' ∧ Apped e w w' B v v' (l ++ m) := by
  obtain ⟨v', w', h1, h2, h3, h4⟩ := runG_app he w B v l hown ad m n cb hn hat hlen h63 hB
  refine ⟨v', w', h1, h2, h4, fun b hb hne => h3.block b hb (fun e => hne e.symm), ?_⟩
  intro g hg
  rcases runG_block he w B v l hown ad m n cb hn hat hlen h63 h1 with h | h
  · left; rw [← h]; exact hg
  · right; rw [h] at hg; cases hg; exact Nat.le_refl _
theorem runG_full1 (he : e.Ok) (w : World) (g : Nat) (hg : g = w.heap.size) (B : Nat) (v : Value) (l : List α) (hown : OwnG e w B v l) (x : α) (c : Array Value) (hc : c.toList = e.enc x)
    (hlen : (l.length + 1) * e.byt ≤ 140737488355328) (h63 : l.length + 1 ≤ maxLen) (hB : B ≤ g) :
    ∃ v' w', (Builtin.append_ #[e.T, e.T] e.T #[v, .slice (some ⟨g, 0, none⟩) 1 1]).run Tryd.prog (w.alloc (.cells c e.E)) = .ok v' w' ∧ Apped e w w' B v v' (l ++ [x]) := by
  subst hg
  have hn := ownG_new he w w.heap.size [x] c 1 rfl (by simpa using hc) (by simp [maxLen]) (Nat.le_refl _)
  obtain ⟨a, cap, e1, _, _, _, hat⟩ := hn.sl he
  cases e1
  have hb : Below w.heap.size w (w.alloc (.cells c e.E)) := (Below.refl _ _).alloc (Nat.le_refl _) _
  obtain ⟨v', w', h1, h2⟩ := runG_full he (w.alloc (.cells c e.E)) B v l (hown.stay hb) _ [x] 1 1 rfl hat hlen h63 (by simp; omega)
  refine ⟨v', w', h1, h2.own, (hb.mono hB).trans h2.below, ?_, ?_⟩
  · intro b hbl hne
    rw [h2.keep b (by simp; omega) hne]
    exact hb.block b hbl
  · intro g hg
    rcases h2.blk g hg with h | h
    · exact .inl h
    · right; simp at h; omega
/-- Another slice stays where it is while one appends. -/
theorem OwnG.apart {β : Type} {f : Elt β} {w w' : World} {B C : Nat} {v v' u : Value} {l : List α} {m : List β} (h : OwnG f w C u m) (ha : Apped e w w' B v v' l) (hne : ∀ g, u.ownBlock = some g → v.ownBlock ≠ some g) :
    OwnG f w' C u m ∧ ∀ g, u.ownBlock = some g → v'.ownBlock ≠ some g := by
  have hlt := World.ownsRow.lt h
  refine ⟨⟨h.1, ?_⟩, ?_⟩
  · rcases h.2 with hn | ⟨g, cap, cur, rfl, h1, hg, rest⟩
    · exact .inl hn
    · refine .inr ⟨g, cap, cur, rfl, h1, ?_, rest⟩
      rw [ha.keep g (Array.getElem?_eq_some_iff.1 hg).1 (hne g rfl)]; exact hg
  · intro g hg hv
    rcases ha.blk g hv with h1 | h1
    · exact hne g hg h1
    · have := (hlt g hg).2; omega
end

/-- Bytes, as one of these. -/
def eB : Elt UInt8 := { T := 70, E := 5, s := 1, byt := 1, z := .int .u8 0, enc := fun c => [bv c] }
theorem eBok : eB.Ok := ⟨fun _ => rfl, fun _ u hu => by simp [eB] at hu; subst hu; rfl, by decide, by kernel_rfl, by kernel_rfl, by rfl⟩
theorem flatB (l : List UInt8) : l.flatMap eB.enc = l.map bv := by
  induction l with
  | nil => rfl
  | cons c l ih => rw [List.flatMap_cons, ih]; rfl
theorem ownB (w : World) (B : Nat) (v : Value) (l : List UInt8) : OwnG eB w B v l ↔ Own w B v l := by
  unfold OwnG Own; rw [flatB]; rfl
theorem atB (w : World) (a : Option Addr) (l : List UInt8) : AtG eB w a l ↔ At w a l := by
  constructor
  · intro h k hk
    obtain ⟨h1, h2⟩ := h k hk
    have := h2 0 (by decide)
    rw [show k * eB.s + 0 = k from Nat.mul_one k] at this
    exact ⟨h1, this⟩
  · intro h k hk
    obtain ⟨h1, h2⟩ := h k hk
    refine ⟨h1, fun j hj => ?_⟩
    have hj0 : j = 0 := by have : eB.s = 1 := rfl; omega
    subst hj0
    rw [show k * eB.s + 0 = k from Nat.mul_one k]
    exact h2

end Go.Proofs.YtjfbmgndekfglaaDoor

namespace Go.Proofs.YtjfbmgndekfglaaDoor
set_option linter.unusedVariables false
set_option linter.unusedSimpArgs false
open Go.RowKit

/-- Of the blocks that are there, none but those of `M` is turned. -/
structure Touch (M : Nat → Prop) (w w' : World) : Prop where
  os : w'.os = w.os
  tape : w'.tape = w.tape
  output : w'.output = w.output
  size : w.heap.size ≤ w'.heap.size
  block : ∀ k, k < w.heap.size → ¬ M k → w'.heap[k]? = w.heap[k]?

theorem Touch.refl (M : Nat → Prop) (w : World) : Touch M w w := ⟨rfl, rfl, rfl, Nat.le_refl _, fun _ _ _ => rfl⟩
theorem Touch.trans {M N : Nat → Prop} {a b c : World} (h : Touch M a b) (k : Touch N b c) (hN : ∀ x, N x → M x ∨ a.heap.size ≤ x) : Touch M a c :=
  ⟨k.os.trans h.os, k.tape.trans h.tape, k.output.trans h.output, Nat.le_trans h.size k.size, fun i hi hm =>
    (k.block i (Nat.lt_of_lt_of_le hi h.size) (fun hn => by rcases hN i hn with h1 | h1; exact hm h1; omega)).trans (h.block i hi hm)⟩
theorem Touch.mono {M N : Nat → Prop} {w w' : World} (h : Touch M w w') (hN : ∀ x, M x → N x) : Touch N w w' := ⟨h.os, h.tape, h.output, h.size, fun k hk hn => h.block k hk (fun hm => hn (hN k hm))⟩
theorem Touch.drewN {M : Nat → Prop} {a w : World} (h : Touch M a w) (n : Nat) : Touch M a (w.drewN n) := ⟨h.os, h.tape, h.output, h.size, h.block⟩
theorem Touch.undrewN {M : Nat → Prop} {a w : World} {n : Nat} (h : Touch M (a.drewN n) w) : Touch M a w := ⟨h.os, h.tape, h.output, h.size, h.block⟩
theorem Touch.undrew {M : Nat → Prop} {a w : World} (h : Touch M a.drew w) : Touch M a w := ⟨h.os, h.tape, h.output, h.size, h.block⟩
theorem Touch.alloc {M : Nat → Prop} {a w : World} (h : Touch M a w) (o : Obj) : Touch M a (w.alloc o) :=
  h.trans (N := fun _ => False) ⟨rfl, rfl, rfl, by simp, fun k hk _ => Below.heap_alloc _ _ _ hk⟩ (fun _ h => h.elim)
theorem Touch.setCell {M : Nat → Prop} {a w : World} (h : Touch M a w) {p : Addr} (hp : M p.block ∨ a.heap.size ≤ p.block) (u : Value) : Touch M a (w.setCell p u) :=
  h.trans (N := fun x => x = p.block) ⟨rfl, rfl, rfl, by simp [World.setCell], fun k hk hne => Below.heap_setCell _ _ _ _ hne⟩ (fun x hx => by subst hx; exact hp)
theorem Touch.setRow {M : Nat → Prop} {a w : World} (h : Touch M a w) {g : Nat} (hp : M g ∨ a.heap.size ≤ g) (cs : Array Value) : Touch M a (w.setRow g cs) :=
  h.trans (N := fun x => x = g) ⟨rfl, rfl, rfl, by simp [World.setRow], fun k hk hne => setRow_other w g k cs hne⟩ (fun x hx => by subst hx; exact hp)
theorem Touch.ofBelow {M : Nat → Prop} {w w' : World} (h : Below w.heap.size w w') : Touch M w w' := ⟨h.os, h.tape, h.output, h.size, fun k hk _ => h.block k hk⟩
theorem Touch.below {M : Nat → Prop} {w w' : World} {B : Nat} (h : Touch M w w') (hM : ∀ x, M x → B ≤ x) (hB : B ≤ w.heap.size) : Below B w w' :=
  ⟨h.os, h.tape, h.output, h.size, fun k hk => h.block k (by omega) (fun hm => by have := hM k hm; omega)⟩
theorem Touch.thenBelow {M : Nat → Prop} {a b c : World} (h : Touch M a b) (k : Below b.heap.size b c) : Touch M a c := h.trans (N := fun _ => False) (Touch.ofBelow k) (fun _ h => h.elim)

theorem At.touch {M : Nat → Prop} {w w' : World} {a : Option Addr} {l : List UInt8} (h : At w a l) (ht : Touch M w w') (hne : ∀ x, a = some x → ¬ M x.block) : At w' a l := by
  intro k hk
  obtain ⟨h1, h2⟩ := h k hk
  refine ⟨h1, ?_⟩
  obtain ⟨x, rfl⟩ := Option.isSome_iff_exists.1 h1
  have e : (adr (some x) k).block = x.block := by simp [adr]; unfold Addr.add; split <;> rfl
  rw [← h2]
  exact World.cell?_of_block (w := w) (ht.block _ (by rw [e]; exact h.lt (by omega) x rfl) (by rw [e]; exact hne x rfl))
theorem AtG.touch {α : Type} {e : Elt α} (he : e.Ok) {M : Nat → Prop} {w w' : World} {a : Option Addr} {l : List α} (h : AtG e w a l) (ht : Touch M w w') (hne : ∀ x, a = some x → ¬ M x.block) : AtG e w' a l := by
  intro k hk
  obtain ⟨h1, h2⟩ := h k hk
  refine ⟨h1, fun j hj => ?_⟩
  obtain ⟨x, rfl⟩ := Option.isSome_iff_exists.1 h1
  have ee : (adr (some x) (k * e.s + j)).block = x.block := by simp [adr]; unfold Addr.add; split <;> rfl
  rw [← h2 j hj]
  exact World.cell?_of_block (w := w) (ht.block _ (by rw [ee]; exact h.lt he (by omega) x rfl) (by rw [ee]; exact hne x rfl))
theorem OwnG.touch {α : Type} {e : Elt α} {M : Nat → Prop} {w w' : World} {B : Nat} {v : Value} {l : List α} (h : OwnG e w B v l) (ht : Touch M w w') (hne : ∀ g, v.ownBlock = some g → ¬ M g) : OwnG e w' B v l := by
  refine ⟨h.1, ?_⟩
  rcases h.2 with hn | ⟨g, cap, cur, rfl, h1, hg, rest⟩
  · exact .inl hn
  · refine .inr ⟨g, cap, cur, rfl, h1, ?_, rest⟩
    rw [ht.block g (Array.getElem?_eq_some_iff.1 hg).1 (hne g rfl)]; exact hg
theorem Own.touch {M : Nat → Prop} {w w' : World} {B : Nat} {v : Value} {l : List UInt8} (h : Own w B v l) (ht : Touch M w w') (hne : ∀ g, v.ownBlock = some g → ¬ M g) : Own w' B v l :=
  (ownB _ _ _ _).1 (((ownB _ _ _ _).2 h).touch ht hne)
theorem Apped.touch {α : Type} {e : Elt α} {w w' : World} {B : Nat} {v v' : Value} {l : List α} (h : Apped e w w' B v v' l) : Touch (fun b => v.ownBlock = some b) w w' :=
  ⟨h.below.os, h.below.tape, h.below.output, h.below.size, fun b hb hn => h.keep b hb hn⟩
theorem own_lt {α : Type} {e : Elt α} {w : World} {B : Nat} {v : Value} {l : List α} (h : OwnG e w B v l) : ∀ g, v.ownBlock = some g → B ≤ g ∧ g < w.heap.size := World.ownsRow.lt h

/-- A slice's value says where its row lies: the address that a slice of the call's own has. -/
theorem OwnG.at {α : Type} {e : Elt α} (he : e.Ok) {w : World} {B : Nat} {v : Value} {l : List α} (h : OwnG e w B v l) :
    ∃ a cap, v = .slice a l.length cap ∧ l.length ≤ cap ∧ cap ≤ maxLen ∧ (a = none → cap = 0) ∧ AtG e w a l ∧ ∀ x, a = some x → v.ownBlock = some x.block := by
  obtain ⟨a, cap, rfl, h1, h2, h3, h4⟩ := h.sl he
  refine ⟨a, cap, rfl, h1, h2, h3, h4, ?_⟩
  rintro x rfl
  rfl

/-- A function that has a body is entered. -/
theorem run_enter {f : FuncId} {fn : Func} {c : Code} (hf : Tryd.prog.funcs[f]? = some fn) (hname : (fn.name == "runtime.NumGoroutine") = false) (hb : fn.body = some c) (args : Array Value) (w : World) :
    (callFunc f args).run Tryd.prog w = .ok (.enter f args) w := by
  have h1 : fn.name ≠ "runtime.NumGoroutine" := by simpa using hname
  simp [callFunc, hf, h1, hb]
/-- A call of a Go function as one step of a region that draws its order. -/
theorem step_call1 {ops : Array Oper} {o : Oper} {a : Act} {w : World} {K : Act → World → Prop} {Q : Exit → Act → World → Prop} {E : Prop} (hw : Region.wanted o (yielded ops a.tmps) = true) (f : FuncId) (x : Operand) (t : TypeId)
    (ho : o.op = .call { callee := .value (.func f), args := #[x], argTypes := #[t] }) (y : Value) (hx : a.eval x = y) (he : ∀ w, (callFunc f #[y]).run Tryd.prog w = .ok (.enter f #[y]) w)
    {R : Value → World → Prop} (hc : Calls Tryd.prog f #[y] w fun e w' => ∃ v, e = .returned v ∧ R v w') (h : ∀ v w', R v w' → K (a.put o.dst v) w') :
    if Region.wanted o (yielded ops a.tmps) = true then Oper.wp Tryd.prog o a w K Q else E := by
  rw [if_pos hw]
  unfold Oper.wp execOp
  have e1 : a.eval (Operand.func f) = Value.func (Fn.func f) #[] #[] := rfl
  have e2 : (callFunc f (#[] ++ #[y] ++ #[])).run Tryd.prog w = .ok (.enter f #[y]) w := by simpa using he w
  simp only [ho, resolve, invoke, Sem.run_bind, Sem.run_pure, Result.andThen_ok, List.map_toArray, List.map_cons, List.map_nil, hx, e1, Deferred.ofValue, e2]
  rw [Oper.upon_enter]
  refine hc.mono ?_
  rintro e w' ⟨v, rfl, hr⟩
  exact h v w' hr

theorem step_call0 {ops : Array Oper} {o : Oper} {a : Act} {w : World} {K : Act → World → Prop} {Q : Exit → Act → World → Prop} {E : Prop} (hw : Region.wanted o (yielded ops a.tmps) = true) (f : FuncId) 
    (ho : o.op = .call { callee := .value (.func f), args := #[], argTypes := #[] })  (he : ∀ w, (callFunc f #[]).run Tryd.prog w = .ok (.enter f #[]) w)
    {R : Value → World → Prop} (hc : Calls Tryd.prog f #[] w fun e w' => ∃ v, e = .returned v ∧ R v w') (h : ∀ v w', R v w' → K (a.put o.dst v) w') :
    if Region.wanted o (yielded ops a.tmps) = true then Oper.wp Tryd.prog o a w K Q else E := by
  rw [if_pos hw]
  unfold Oper.wp execOp
  have e1 : a.eval (Operand.func f) = Value.func (Fn.func f) #[] #[] := rfl
  have e2 : (callFunc f (#[] ++ #[] ++ #[])).run Tryd.prog w = .ok (.enter f #[]) w := by simpa using he w
  simp only [ho, resolve, invoke, Sem.run_bind, Sem.run_pure, Result.andThen_ok, List.map_toArray, List.map_cons, List.map_nil, e1, Deferred.ofValue, e2]
  rw [Oper.upon_enter]
  refine hc.mono ?_
  rintro e w' ⟨v, rfl, hr⟩
  exact h v w' hr
theorem step_call2 {ops : Array Oper} {o : Oper} {a : Act} {w : World} {K : Act → World → Prop} {Q : Exit → Act → World → Prop} {E : Prop} (hw : Region.wanted o (yielded ops a.tmps) = true) (f : FuncId) (x1 x2 : Operand) (t1 t2 : TypeId)
    (ho : o.op = .call { callee := .value (.func f), args := #[x1, x2], argTypes := #[t1, t2] }) (y1 : Value) (h1 : a.eval x1 = y1) (y2 : Value) (h2 : a.eval x2 = y2) (he : ∀ w, (callFunc f #[y1, y2]).run Tryd.prog w = .ok (.enter f #[y1, y2]) w)
    {R : Value → World → Prop} (hc : Calls Tryd.prog f #[y1, y2] w fun e w' => ∃ v, e = .returned v ∧ R v w') (h : ∀ v w', R v w' → K (a.put o.dst v) w') :
    if Region.wanted o (yielded ops a.tmps) = true then Oper.wp Tryd.prog o a w K Q else E := by
  rw [if_pos hw]
  unfold Oper.wp execOp
  have e1 : a.eval (Operand.func f) = Value.func (Fn.func f) #[] #[] := rfl
  have e2 : (callFunc f (#[] ++ #[y1, y2] ++ #[])).run Tryd.prog w = .ok (.enter f #[y1, y2]) w := by simpa using he w
  simp only [ho, resolve, invoke, Sem.run_bind, Sem.run_pure, Result.andThen_ok, List.map_toArray, List.map_cons, List.map_nil, h1, h2, e1, Deferred.ofValue, e2]
  rw [Oper.upon_enter]
  refine hc.mono ?_
  rintro e w' ⟨v, rfl, hr⟩
  exact h v w' hr
theorem step_call3 {ops : Array Oper} {o : Oper} {a : Act} {w : World} {K : Act → World → Prop} {Q : Exit → Act → World → Prop} {E : Prop} (hw : Region.wanted o (yielded ops a.tmps) = true) (f : FuncId) (x1 x2 x3 : Operand) (t1 t2 t3 : TypeId)
    (ho : o.op = .call { callee := .value (.func f), args := #[x1, x2, x3], argTypes := #[t1, t2, t3] }) (y1 : Value) (h1 : a.eval x1 = y1) (y2 : Value) (h2 : a.eval x2 = y2) (y3 : Value) (h3 : a.eval x3 = y3) (he : ∀ w, (callFunc f #[y1, y2, y3]).run Tryd.prog w = .ok (.enter f #[y1, y2, y3]) w)
    {R : Value → World → Prop} (hc : Calls Tryd.prog f #[y1, y2, y3] w fun e w' => ∃ v, e = .returned v ∧ R v w') (h : ∀ v w', R v w' → K (a.put o.dst v) w') :
    if Region.wanted o (yielded ops a.tmps) = true then Oper.wp Tryd.prog o a w K Q else E := by
  rw [if_pos hw]
  unfold Oper.wp execOp
  have e1 : a.eval (Operand.func f) = Value.func (Fn.func f) #[] #[] := rfl
  have e2 : (callFunc f (#[] ++ #[y1, y2, y3] ++ #[])).run Tryd.prog w = .ok (.enter f #[y1, y2, y3]) w := by simpa using he w
  simp only [ho, resolve, invoke, Sem.run_bind, Sem.run_pure, Result.andThen_ok, List.map_toArray, List.map_cons, List.map_nil, h1, h2, h3, e1, Deferred.ofValue, e2]
  rw [Oper.upon_enter]
  refine hc.mono ?_
  rintro e w' ⟨v, rfl, hr⟩
  exact h v w' hr
theorem step_call4 {ops : Array Oper} {o : Oper} {a : Act} {w : World} {K : Act → World → Prop} {Q : Exit → Act → World → Prop} {E : Prop} (hw : Region.wanted o (yielded ops a.tmps) = true) (f : FuncId) (x1 x2 x3 x4 : Operand) (t1 t2 t3 t4 : TypeId)
    (ho : o.op = .call { callee := .value (.func f), args := #[x1, x2, x3, x4], argTypes := #[t1, t2, t3, t4] }) (y1 : Value) (h1 : a.eval x1 = y1) (y2 : Value) (h2 : a.eval x2 = y2) (y3 : Value) (h3 : a.eval x3 = y3) (y4 : Value) (h4 : a.eval x4 = y4) (he : ∀ w, (callFunc f #[y1, y2, y3, y4]).run Tryd.prog w = .ok (.enter f #[y1, y2, y3, y4]) w)
    {R : Value → World → Prop} (hc : Calls Tryd.prog f #[y1, y2, y3, y4] w fun e w' => ∃ v, e = .returned v ∧ R v w') (h : ∀ v w', R v w' → K (a.put o.dst v) w') :
    if Region.wanted o (yielded ops a.tmps) = true then Oper.wp Tryd.prog o a w K Q else E := by
  rw [if_pos hw]
  unfold Oper.wp execOp
  have e1 : a.eval (Operand.func f) = Value.func (Fn.func f) #[] #[] := rfl
  have e2 : (callFunc f (#[] ++ #[y1, y2, y3, y4] ++ #[])).run Tryd.prog w = .ok (.enter f #[y1, y2, y3, y4]) w := by simpa using he w
  simp only [ho, resolve, invoke, Sem.run_bind, Sem.run_pure, Result.andThen_ok, List.map_toArray, List.map_cons, List.map_nil, h1, h2, h3, h4, e1, Deferred.ofValue, e2]
  rw [Oper.upon_enter]
  refine hc.mono ?_
  rintro e w' ⟨v, rfl, hr⟩
  exact h v w' hr

theorem ret1 {f : FuncId} {ys : Array Value} {w : World} {v : Value} {Q : World → Prop} (h : Calls Tryd.prog f ys w fun e w' => e = .returned v ∧ Q w') : Calls Tryd.prog f ys w fun e w' => ∃ u, e = .returned u ∧ (u = v ∧ Q w') :=
  h.mono fun _ _ ⟨h1, h2⟩ => ⟨_, h1, rfl, h2⟩
theorem retS {f : FuncId} {ys : Array Value} {w : World} {n : Nat} {Q : Option Addr → Nat → World → Prop} (h : Calls Tryd.prog f ys w fun e w' => ∃ a c, e = .returned (.slice a n c) ∧ Q a c w') : Calls Tryd.prog f ys w fun e w' => ∃ u, e = .returned u ∧ ∃ a c, u = .slice a n c ∧ Q a c w' :=
  h.mono fun _ _ ⟨a, c, h1, h2⟩ => ⟨_, h1, a, c, rfl, h2⟩

/-- `copy` into a row of known cells, as one step of a region that draws its order: no other block is turned. -/
theorem step_copyT {ops : Array Oper} {o : Oper} {a : Act} {w : World} {K : Act → World → Prop} {Q : Exit → Act → World → Prop} {E : Prop} (hgd : o.guard = none) (d s : Operand) (dT sT : TypeId)
    (ho : o.op = .call { callee := .builtin .copy, args := #[d, s], argTypes := #[dT, sT] }) (elem : TypeId) (hu : Tryd.prog.underlying dT = some (.slice elem)) (hsz : (Tryd.prog.info? elem).map (·.size) = some 1)
    (dp sp : Option Addr) (dLen dCap sLen sCap : Nat) (hd : a.eval d = .slice dp dLen dCap) (hs : a.eval s = .slice sp sLen sCap)
    (g off : Nat) (cur : List Value) (t : TypeId) (hg : w.heap[g]? = some (.cells cur.toArray t (0, 0))) (cs : List Value) (hn : cs.length = Nat.min sLen dLen)
    (hpos : 0 < cs.length → dp = some ⟨g, off, none⟩ ∧ ∃ ad, sp = some ad ∧ ∀ j v, cs[j]? = some v → w.cell? (ad.add j) = some v)
    (hfit : off + cs.length ≤ cur.length) (h1 : ∀ v ∈ cs, v.oneCell' = true)
    (h : ∀ w', Hid (w'.heap[g]? = some (.cells (splice cur off cs).toArray t (0, 0))) → Touch (fun b => b = g) w w' → K (a.put o.dst (goInt cs.length)) w') :
    if Region.wanted o (yielded ops a.tmps) = true then Oper.wp Tryd.prog o a w K Q else E := by
  have hw : Region.wanted o (yielded ops a.tmps) = true := by simp [Region.wanted, hgd]
  rw [if_pos hw]
  rcases Nat.eq_zero_or_pos cs.length with h0 | h0
  · have e0 : cs = [] := List.eq_nil_of_length_eq_zero h0
    subst e0
    have hrun := run_copy_none (P := Tryd.prog) w dT sT o.type elem dp sp dLen dCap sLen sCap hu hsz (by simpa using hn.symm)
    unfold Oper.wp
    simp [execOp, ho, resolve, invoke, builtin, hd, hs, hrun, Result.andThen]
    exact h w (by rw [Hid, hg]; simp [splice]) (Touch.refl _ _)
  · obtain ⟨rfl, ad, rfl, hsrc⟩ := hpos h0
    have hrun := run_copy_row (P := Tryd.prog) w dT sT o.type elem g off dLen dCap ad sLen sCap cur.toArray t cs hu hsz hg hn hsrc (by simpa using hfit) h1
    unfold Oper.wp
    simp [execOp, ho, resolve, invoke, builtin, hd, hs, hrun, Result.andThen]
    exact h _ (by rw [Hid]; simpa [splice] using setRow_heap w g _ _ t _ hg) ((Touch.refl (fun b => b = g) w).setRow (g := g) (.inl rfl) _)

end Go.Proofs.YtjfbmgndekfglaaDoor

namespace Go.Proofs.YtjfbmgndekfglaaDoor
set_option linter.unusedVariables false
set_option linter.unusedSimpArgs false
open Go.RowKit

/-- Is it this call? (Under with_reducible: an arm that is meant for another operation fails at once.) -/
theorem guardC (f : FuncId) (xs : Array Operand) {ts : Array TypeId} {dst : Option Tmp} {ty : TypeId} {ps : String} {af : Array Edge} {gd : Option (Nat × Bool)} {Y : Nat → Option Bool} {a : Act} {w : World} {K : Act → World → Prop} {Q : Exit → Act → World → Prop} {E : Prop}
    (h : if Region.wanted ⟨dst, .call { callee := .value (.func f), args := xs, argTypes := ts }, ty, ps, af, gd⟩ Y = true then Oper.wp Tryd.prog ⟨dst, .call { callee := .value (.func f), args := xs, argTypes := ts }, ty, ps, af, gd⟩ a w K Q else E) :
    if Region.wanted ⟨dst, .call { callee := .value (.func f), args := xs, argTypes := ts }, ty, ps, af, gd⟩ Y = true then Oper.wp Tryd.prog ⟨dst, .call { callee := .value (.func f), args := xs, argTypes := ts }, ty, ps, af, gd⟩ a w K Q else E := h

theorem ops_at {l : List Oper} {i : Nat} {o : Oper} (h : l[i]? = some o) : (l.toArray)[i]? = some o := by simpa using h
/-- What is held through a region may be more from some step on. -/
theorem wpAnyH_mono {P : Program} {ops : Array Oper} {Q : Exit → Act → World → Prop} {md : Region.Mode} {S S' : World → Prop} (h : ∀ w, S w → S' w) :
    ∀ (fuel : Nat) (listed : Array Bool) (a : Act) (w : World), wpAnyH P md ops Q S fuel listed a w → wpAnyH P md ops Q S' fuel listed a w
  | 0, _, _, _, k => k
  | fuel + 1, _, _, _, k => ⟨k.1, fun i hi => wpOp_mono (fun a' w' k' => ⟨h w' k'.1, wpAnyH_mono h fuel _ a' w' k'.2⟩) (k.2 i hi)⟩

end Go.Proofs.YtjfbmgndekfglaaDoor
