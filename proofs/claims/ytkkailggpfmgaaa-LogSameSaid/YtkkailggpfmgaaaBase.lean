/- What all walks share: slices of bytes as lists. -/
import Derived.Test.YtkkailggpfmgaaaProg
import Derived.WalkLawsBesides
import Derived.WalkSpells
import Derived.Deep.QuietTactic
import Derived.BigQuiet
import Derived.WalkSmall
import Derived.Deep.RegionHeld3
import Derived.Lib.AppendStr
import Derived.Lib.SlBytesConst
namespace Go.Proofs.Ytkkailggpfmgaaa
set_option linter.unusedVariables false
set_option linter.unusedSimpArgs false
open Go.RowKit

/-- A fact kept from the walk. -/
theorem hid {p : Prop} (h : p) : Hid p := h

/-- The address of place `k` behind a slice's head. -/
def adr (a : Option Addr) (k : Nat) : Addr := (a.getD default).add k
/-- The bytes `l` stand behind the head `a`. -/
def At (w : World) (a : Option Addr) (l : List UInt8) : Prop := ∀ k (h : k < l.length), a.isSome = true ∧ w.cell? (adr a k) = some (.int .u8 (l[k].toNat : Int))

theorem sliceT : Try.prog.underlying 32 = some (.slice (Try.prog.elem 32)) := by kernel_rfl
theorem sizeT (w : World) : (sizeOf (Try.prog.elem 32)).run Try.prog w = .ok 1 w := by kernel_rfl

theorem idx_run (a : Option Addr) (n cap : Nat) (hn : 0 < n → a.isSome = true) (k : Nat) (wx : World) (hk : k < n) :
    (Instr.indexAt 32 (.slice a n cap) (.int .i64 k)).run Try.prog wx = .ok (.pointer (some (adr a k))) wx := by
  cases a with
  | none => simp at hn; omega
  | some a =>
    rw [run_indexAt_slice (h := sliceT), if_pos ⟨by omega, by omega⟩, sizeT]
    simp [Result.andThen, adr]

theorem idx_at (a : Option Addr) (n cap : Nat) (hn : 0 < n → a.isSome = true) (k : Nat) (i : Int) (hi : i = (k : Int)) (hk : k < n) (wx : World) :
    (Instr.indexAt 32 (.slice a n cap) (.int .i64 i)).run Try.prog wx = .ok (.pointer (some (adr a k))) wx := by
  rw [hi]; exact idx_run a n cap hn k wx hk

theorem At.ok {w : World} {a : Option Addr} {l : List UInt8} (h : At w a l) (hl : 0 < l.length) : a.isSome = true := (h 0 hl).1
theorem At.cell {w : World} {a : Option Addr} {l : List UInt8} (h : At w a l) {k : Nat} (hk : k < l.length) : w.cell? (adr a k) = some (.int .u8 (l[k].toNat : Int)) := (h k hk).2

/-- A byte as a value. -/
def bv (c : UInt8) : Value := .int .u8 (c.toNat : Int)
theorem bv_def (c : UInt8) : bv c = .int .u8 (c.toNat : Int) := rfl
/-- The slice `v` is one of the call's own (blocks from `B` on), and holds the bytes `l`. -/
def Own (w : World) (B : Nat) (v : Value) (l : List UInt8) : Prop := w.ownsRow B 5 1 v l.length (l.map bv)

theorem Own.nil (w : World) (B : Nat) : Own w B (.slice none 0 0) [] := World.ownsRow_nil _ _ _ _

/-- A slice of bytes, as it lies in a world: its head, its length, its capacity. -/
def Sl (w : World) (v : Value) (l : List UInt8) : Prop := ∃ a cap, v = .slice a l.length cap ∧ l.length ≤ cap ∧ cap ≤ maxLen ∧ At w a l

theorem Own.sl {w : World} {B : Nat} {v : Value} {l : List UInt8} (h : Own w B v l) : Sl w v l := by
  obtain ⟨_, h⟩ := h
  rcases h with ⟨rfl, h0⟩ | ⟨g, cap, cur, rfl, hB, hg, h1, h2, h3, h4⟩
  · refine ⟨none, 0, by rw [h0], by omega, by unfold maxLen; omega, ?_⟩
    intro k hk; omega
  · refine ⟨some ⟨g, 0, none⟩, cap, rfl, h1, h2, ?_⟩
    intro k hk
    refine ⟨rfl, ?_⟩
    have e : adr (some ⟨g, 0, none⟩) k = ⟨g, k, none⟩ := by simp [adr, Addr.add_lit]
    rw [e, cell_of_row w g k cur 5 (0, 0) hg]
    have h5 : (cur.toList.take (l.length * 1))[k]? = some (bv l[k]) := by rw [h4]; simp [hk]
    rw [List.getElem?_take] at h5
    split at h5
    · simpa [bv] using h5
    · cases h5

theorem At.below {w w' : World} {a : Option Addr} {l : List UInt8} (h : At w a l) {B : Nat} (hb : Below B w w') (ha : ∀ x, a = some x → x.block < B) : At w' a l := by
  intro k hk
  obtain ⟨h1, h2⟩ := h k hk
  refine ⟨h1, ?_⟩
  obtain ⟨x, rfl⟩ := Option.isSome_iff_exists.1 h1
  have e : (adr (some x) k).block = x.block := by simp [adr]; unfold Addr.add; split <;> rfl
  rw [← h2]
  exact hb.cell (by rw [e]; exact ha x rfl)
/-- Cells that are there lie in a block that is there. -/
theorem At.lt {w : World} {a : Option Addr} {l : List UInt8} (h : At w a l) (hl : 0 < l.length) : ∀ x, a = some x → x.block < w.heap.size := by
  rintro x rfl
  have h2 := (h 0 hl).2
  have e : adr (some x) 0 = x := by simp [adr, Addr.add]
  rw [e] at h2
  exact World.block_lt_of_cell? w x h2
theorem At.all {w w' : World} {a : Option Addr} {l : List UInt8} (h : At w a l) (hb : Below w.heap.size w w') : At w' a l := by
  intro k hk
  exact (h.below hb (h.lt (by omega))) k hk
theorem At.drewN {w : World} {a : Option Addr} {l : List UInt8} (h : At w a l) (n : Nat) : At (w.drewN n) a l := h
theorem At.nil (w : World) (a : Option Addr) : At w a [] := by intro k hk; simp at hk
theorem At.take {w : World} {a : Option Addr} {l : List UInt8} (h : At w a l) (n : Nat) : At w a (l.take n) := by
  intro k hk
  obtain ⟨h1, h2⟩ := h k (by simp at hk; omega)
  exact ⟨h1, by rw [h2]; simp⟩
theorem adr_add (a : Option Addr) (i k : Nat) : adr (a.map (·.add i)) k = if a.isSome then adr a (i + k) else adr none k := by
  cases a with
  | none => rfl
  | some x =>
    simp only [adr, Option.map_some, Option.getD_some, Option.isSome_some, if_true]
    unfold Addr.add
    by_cases hi : i = 0
    · subst hi; simp
    · by_cases hk : k = 0
      · subst hk; simp [hi]
      · simp [hi, hk, Nat.add_assoc]
theorem At.drop {w : World} {a : Option Addr} {l : List UInt8} (h : At w a l) (n : Nat) : At w (a.map (·.add n)) (l.drop n) := by
  intro k hk
  simp at hk
  obtain ⟨h1, h2⟩ := h (n + k) (by omega)
  refine ⟨by simpa using h1, ?_⟩
  rw [adr_add, if_pos h1, h2]; simp
/-- The head of `b[lo:hi]`. -/
def cutH (a : Option Addr) (lo cap : Nat) : Option Addr := if cap = lo then a else a.map (·.add (lo * 1))
theorem At.cut {w : World} {a : Option Addr} {l : List UInt8} (h : At w a l) (lo n cap : Nat) (hm : n ≤ cap - lo) : At w (cutH a lo cap) ((l.drop lo).take n) := by
  unfold cutH
  split
  · rename_i e
    rw [show n = 0 by omega]
    exact At.nil _ _
  · rw [Nat.mul_one]
    exact (h.drop lo).take n
theorem cut_lh (a : Option Addr) (n cap lo hi : Nat) (wx : World) (h1 : lo ≤ hi) (h2 : hi ≤ cap) :
    (Instr.slice 32 (.slice a n cap) (some (.int .i64 lo)) (some (.int .i64 hi)) none).run Try.prog wx = .ok (.slice (cutH a lo cap) (hi - lo) (cap - lo)) wx := by
  rw [run_slice_lh wx _ a n cap sliceT .i64 .i64 lo hi (by omega) (by omega) (by omega), sizeT]
  simp [Result.andThen, sliced, cutH]
theorem cut_h (a : Option Addr) (n cap hi : Nat) (wx : World) (h2 : hi ≤ cap) :
    (Instr.slice 32 (.slice a n cap) none (some (.int .i64 hi)) none).run Try.prog wx = .ok (.slice (cutH a 0 cap) hi cap) wx := by
  rw [run_slice_h wx _ a n cap sliceT .i64 hi (by omega) (by omega), sizeT]
  simp [Result.andThen, sliced, cutH]
theorem cut_l (a : Option Addr) (n cap lo : Nat) (wx : World) (h1 : lo ≤ n) (h2 : n ≤ cap) :
    (Instr.slice 32 (.slice a n cap) (some (.int .i64 lo)) none none).run Try.prog wx = .ok (.slice (cutH a lo cap) (n - lo) (cap - lo)) wx := by
  have hn : ((lo : Int)) ≤ (n : Int) := by omega
  rw [run_slice_any wx _ a n cap sliceT]
  have hb : (Instr.sliceBounds true n cap (some (.int .i64 (lo : Int))) none none).run Try.prog wx = .ok (lo, n, cap) wx := by
    simp [Instr.sliceBounds, run_sliceBound, hn, h2]
  rw [hb]
  simp only [Result.andThen]
  rw [sizeT]
  simp [Result.andThen, sliced, cutH]

theorem cut_lhI (a : Option Addr) (n cap lo hi : Nat) (i j : Int) (ei : i = lo) (ej : j = hi) (h1 : lo ≤ hi) (h2 : hi ≤ cap) (wx : World) :
    (Instr.slice 32 (.slice a n cap) (some (.int .i64 i)) (some (.int .i64 j)) none).run Try.prog wx = .ok (.slice (cutH a lo cap) (hi - lo) (cap - lo)) wx := by
  rw [ei, ej]; exact cut_lh a n cap lo hi wx h1 h2
theorem cut_hI (a : Option Addr) (n cap hi : Nat) (j : Int) (ej : j = hi) (h2 : hi ≤ cap) (wx : World) :
    (Instr.slice 32 (.slice a n cap) none (some (.int .i64 j)) none).run Try.prog wx = .ok (.slice (cutH a 0 cap) hi cap) wx := by
  rw [ej]; exact cut_h a n cap hi wx h2
theorem cut_lI (a : Option Addr) (n cap lo : Nat) (i : Int) (ei : i = lo) (h1 : lo ≤ n) (h2 : n ≤ cap) (wx : World) :
    (Instr.slice 32 (.slice a n cap) (some (.int .i64 i)) none none).run Try.prog wx = .ok (.slice (cutH a lo cap) (n - lo) (cap - lo)) wx := by
  rw [ei]; exact cut_l a n cap lo wx h1 h2
theorem At.h {w : World} {a : Option Addr} {l : List UInt8} (h : At w a l) (n cap : Nat) (hm : n ≤ cap) : At w (cutH a 0 cap) (l.take n) := by
  have := h.cut 0 n cap (by omega); rwa [List.drop_zero] at this
theorem At.l {w : World} {a : Option Addr} {l : List UInt8} (h : At w a l) (n cap : Nat) (hm : l.length ≤ cap) : At w (cutH a n cap) (l.drop n) := by
  have := h.cut n (l.length - n) cap (by omega)
  rwa [List.take_of_length_le (by rw [List.length_drop]; omega)] at this

theorem u8T : Try.prog.underlying 5 = some (.int .u8) := by kernel_rfl

/-- One more step. -/
theorem bst {w w1 w2 : World} (h : Below w.heap.size w w1) (k : Below w1.heap.size w1 w2) : Below w.heap.size w w2 := h.trans (k.mono h.size)
theorem bstB {B : Nat} {w w1 w2 : World} (hB : B ≤ w.heap.size) (h : Below B w w1) (k : Below w1.heap.size w1 w2) : Below B w w2 := h.trans (k.mono (Nat.le_trans hB h.size))
theorem undrew {B : Nat} {w w' : World} (h : Below B w.drew w') : Below B w w' := ⟨h.os, h.tape, h.output, h.size, h.block⟩
theorem undrewN {B n : Nat} {w w' : World} (h : Below B (w.drewN n) w') : Below B w w' := ⟨h.os, h.tape, h.output, h.size, h.block⟩

theorem own_new (w : World) (B : Nat) (l : List UInt8) (c : Array Value) (n : Nat) (hn : n = l.length) (hc : c.toList = l.map bv) (hm : l.length ≤ maxLen) (hB : B ≤ w.heap.size) :
    Own (w.alloc (.cells c 5)) B (.slice (some ⟨w.heap.size, 0, none⟩) n n) l := by
  subst hn
  have hs : c.size = l.length := by rw [← Array.length_toList, hc]; simp
  refine ⟨by simp, .inr ⟨w.heap.size, l.length, c, rfl, hB, heap_alloc_new w _, Nat.le_refl _, hm, by omega, ?_⟩⟩
  rw [hc, Nat.mul_one, List.take_of_length_le (by simp)]
/-- A byte out of a number. -/
theorem bv_of (n : Int) (h0 : 0 ≤ n) (h1 : n < 256) : bv (UInt8.ofNat n.toNat) = .int .u8 n := by
  unfold bv
  congr 1
  rw [UInt8.toNat_ofNat']
  omega

theorem infoB : (Try.prog.info? 5).map (fun i => (i.zero, i.size, i.bytes)) = some (some (.int .u8 0), 1, 1) := by kernel_rfl
theorem sliceB : Try.prog.underlying 32 = some (.slice 5) := by kernel_rfl
theorem bv_one (l : List UInt8) : ∀ u ∈ l.map bv, u.oneCell' = true := by
  intro u hu
  obtain ⟨c, _, rfl⟩ := List.mem_map.1 hu
  rfl

/-- `append(v, x...)` to a slice of the call's own, as it runs. -/
theorem run_app (ty : TypeId) (w : World) (B : Nat) (v : Value) (l : List UInt8) (hown : Own w B v l) (ad : Option Addr) (m : List UInt8) (n cb : Nat) (hn : m.length = n) (hat : At w ad m)
    (hlen : l.length + n ≤ 140737488355328) (hB : B ≤ w.heap.size) :
    ∃ v' w', (Builtin.append_ #[32, 32] 32 #[v, .slice ad n cb]).run Try.prog w = .ok v' w' ∧ Own w' B v' (l ++ m) ∧ w.grownBy w' v.ownBlock := by
  subst hn
  obtain ⟨i, hi, hz0, hz1, hz2⟩ := info_parts infoB
  have key : ∀ x : Addr, At w (some x) m → ∃ v' w', (Builtin.append_ #[32, 32] 32 #[v, .slice (some x) m.length cb]).run Try.prog w = .ok v' w' ∧ Own w' B v' (l ++ m) ∧ w.grownBy w' v.ownBlock := by
    intro x hat
    obtain ⟨v', w', h1, h2, h3, _⟩ := run_append_own (P := Try.prog) w B 32 32 5 i (.int .u8 0) 1 1 sliceB hi hz0 hz1 hz2 rfl (by omega) v l.length (l.map bv) hown x m.length cb (m.map bv) (by simp)
      (by
        intro j u hj
        simp only [List.getElem?_map, Option.map_eq_some_iff] at hj
        obtain ⟨c, hc, rfl⟩ := hj
        obtain ⟨hk, rfl⟩ := List.getElem?_eq_some_iff.1 hc
        exact (hat j hk).2) (bv_one m) (by unfold maxLen; omega) (by omega) hB
    refine ⟨v', w', h1, ?_, h3⟩
    unfold Own
    rw [List.length_append, List.map_append]
    exact h2
  cases ad with
  | some x => exact key x hat
  | none =>
    have hm : m = [] := by
      cases m with
      | nil => rfl
      | cons c m => have := (hat 0 (by simp)).1; simp at this
    subst hm
    refine ⟨v, w, ?_, by simpa using hown, rfl, rfl, rfl, Nat.le_refl _, fun _ _ _ => rfl⟩
    rcases hown.2 with ⟨rfl, h0⟩ | ⟨g, cap, cur, rfl, _, _, hnc, _⟩
    · simp [Builtin.append_, run_underlying sliceB, sizeOf, typeInfo, hi, Builtin.lenOf, Builtin.firstCells]
    · simp [Builtin.append_, run_underlying sliceB, sizeOf, typeInfo, hi, Builtin.lenOf, Builtin.firstCells, hnc, storeCells]

/-- `append(v, x...)` to a slice that has no room: a new block. -/
theorem run_grow (w : World) (a : Option Addr) (l : List UInt8) (k ca : Nat) (hk : l.length = k) (hal : At w a l) (ad : Option Addr) (m : List UInt8) (n cb : Nat) (hn : m.length = n) (hat : At w ad m)
    (hnil : a = none → k = 0 ∧ ca = 0) (hg : ca < k + n) (h0 : 0 < n) (hlen : k + n ≤ 140737488355328) :
    ∃ v' w', (Builtin.append_ #[32, 32] 32 #[.slice a k ca, .slice ad n cb]).run Try.prog w = .ok v' w' ∧ Own w' w.heap.size v' (l ++ m) ∧ Below w.heap.size w w' := by
  subst hk hn
  obtain ⟨i, hi, hz0, hz1, hz2⟩ := info_parts infoB
  have cells : ∀ (x : Addr) (q : List UInt8), At w (some x) q → ∀ j u, (q.map bv)[j]? = some u → w.cell? (x.add j) = some u := by
    intro x q hq j u hj
    simp only [List.getElem?_map, Option.map_eq_some_iff] at hj
    obtain ⟨c, hc, rfl⟩ := hj
    obtain ⟨hk, rfl⟩ := List.getElem?_eq_some_iff.1 hc
    exact (hq j hk).2
  cases ad with
  | none =>
    cases m with
    | nil => simp at h0
    | cons c m => have := (hat 0 (by simp)).1; simp at this
  | some x =>
    have fin : ∀ (old : Nat), (Builtin.append_ #[32, 32] 32 #[.slice a l.length ca, .slice (some x) m.length cb]).run Try.prog w =
        .ok (.slice (some ⟨w.heap.size, 0, none⟩) (l.length + m.length) (grownCap w (l.length + m.length) old 5))
          (w.drew.alloc (.cells ((l.map bv).toArray ++ (m.map bv).toArray ++ Builtin.zeroCells #[Value.int .u8 0] (grownCap w (l.length + m.length) old 5 - (l.length + m.length))) 5)) →
        ∃ v' w', (Builtin.append_ #[32, 32] 32 #[.slice a l.length ca, .slice (some x) m.length cb]).run Try.prog w = .ok v' w' ∧ Own w' w.heap.size v' (l ++ m) ∧ Below w.heap.size w w' := by
      intro old hr
      have hge := grownCap_ge w (l.length + m.length) old 5
      have hcm := grownCap_le_maxLen w (l.length + m.length) old 5 (by unfold maxLen; omega)
      refine ⟨_, _, hr, ?_, ((Below.refl _ _).drew).alloc (Nat.le_refl _) _⟩
      unfold Own
      rw [List.length_append]
      refine ⟨by simp, .inr ⟨w.heap.size, _, _, rfl, Nat.le_refl _, heap_alloc_new w.drew _, hge, hcm, ?_, ?_⟩⟩
      · simp [Builtin.zeroCells]; omega
      · simp only [Array.toList_append, List.append_assoc, Nat.mul_one]
        rw [← List.append_assoc, List.take_left' (by simp), List.map_append]
    cases a with
    | none =>
      obtain ⟨e1, e2⟩ := hnil rfl
      have hl : l = [] := List.eq_nil_of_length_eq_zero e1
      subst hl e2
      refine fin 0 ?_
      have hr := run_append_nil (P := Try.prog) w 32 32 5 i (.int .u8 0) sliceB hi hz0 x m.length cb (m.map bv) (by simp [hz1]) (cells x m hat) (by omega) (by omega) (by rw [hz2]; omega)
      simpa [Value.cells] using hr
    | some b =>
      refine fin ca ?_
      have hr := run_append_grow (P := Try.prog) w 32 32 5 i (.int .u8 0) sliceB hi hz0 b l.length ca (l.map bv) (by simp [hz1]) (cells b l hal) x m.length cb (m.map bv) (by simp [hz1]) (cells x m hat) hg (by omega) (growslice_fits hg (by rw [hz2]; omega))
      simpa [Value.cells] using hr

/-- The same of a string behind a slice of the call's own. -/
theorem run_str (w : World) (B : Nat) (v : Value) (l : List UInt8) (hown : Own w B v l) (s : ByteArray) (hlen : l.length + s.size ≤ 140737488355328) (hB : B ≤ w.heap.size) :
    ∃ v' w', (Builtin.append_ #[32, 9] 32 #[v, .string s]).run Try.prog w = .ok v' w' ∧ Own w' B v' (l ++ s.data.toList) ∧ w.grownBy w' v.ownBlock := by
  obtain ⟨i, hi, hz0, hz1, hz2⟩ := info_parts infoB
  obtain ⟨v', w', h1, h2, h3, _⟩   := Lib.run_append_own_string (P := Try.prog) w B 32 9 32 5 i sliceB (by kernel_rfl) hi hz0 hz1 hz2 v l.length (l.map bv) hown s (by unfold maxLen; omega) hlen hB
  refine ⟨v', w', h1, ?_, h3⟩
  unfold Own
  rw [List.length_append, List.map_append]
  have e : s.data.toList.length = s.size := by simp
  rw [e]
  exact h2

theorem wp_app {o : Oper} {a : Act} {w : World} {K : Act → World → Prop} {Q : Exit → Act → World → Prop} (s x : Operand) (t u ty : TypeId)
    (ho : o.op = .call { callee := .builtin .append, args := #[s, x], argTypes := #[t, u] }) (hty : o.type = ty) {R : Value → World → Prop} (v y : Value) (hs : a.eval s = v) (hx : a.eval x = y)
    (hr : ∃ v' w', (Builtin.append_ #[t, u] ty #[v, y]).run Try.prog w = .ok v' w' ∧ R v' w') (h : ∀ v' w', R v' w' → K (a.put o.dst v') w') : o.wp Try.prog a w K Q := by
  obtain ⟨v', w', hr, h2⟩ := hr
  unfold Oper.wp execOp
  simp only [ho, resolve, invoke, builtin, Sem.run_bind, Sem.run_pure, Result.andThen_ok, List.map_toArray, List.map_cons, List.map_nil, hs, hx, hty, hr]
  exact h v' w' h2

/-- In a region in the text's order. -/
theorem wpList_app {ops : Array Oper} {rest : List Oper} {o : Oper} {a : Act} {w : World} {Q : Exit → Act → World → Prop} (hw : Region.wanted o (yielded ops a.tmps) = true) (s x : Operand) (t u ty : TypeId)
    (ho : o.op = .call { callee := .builtin .append, args := #[s, x], argTypes := #[t, u] }) (hty : o.type = ty) {R : Value → World → Prop} (v y : Value) (hs : a.eval s = v) (hx : a.eval x = y)
    (hr : ∃ v' w', (Builtin.append_ #[t, u] ty #[v, y]).run Try.prog w = .ok v' w' ∧ R v' w') (h : ∀ v' w', R v' w' → wpList Try.prog ops Q rest (a.put o.dst v') w') : wpList Try.prog ops Q (o :: rest) a w := by
  unfold wpList
  rw [if_pos hw]
  exact .inl (wp_app s x t u ty ho hty v y hs hx hr h)
/-- In a region that draws its order. -/
theorem step_app {ops : Array Oper} {o : Oper} {a : Act} {w : World} {K : Act → World → Prop} {Q : Exit → Act → World → Prop} {E : Prop} (hw : Region.wanted o (yielded ops a.tmps) = true) (s x : Operand) (t u ty : TypeId)
    (ho : o.op = .call { callee := .builtin .append, args := #[s, x], argTypes := #[t, u] }) (hty : o.type = ty) {R : Value → World → Prop} (v y : Value) (hs : a.eval s = v) (hx : a.eval x = y)
    (hr : ∃ v' w', (Builtin.append_ #[t, u] ty #[v, y]).run Try.prog w = .ok v' w' ∧ R v' w') (h : ∀ v' w', R v' w' → K (a.put o.dst v') w') : if Region.wanted o (yielded ops a.tmps) = true then Oper.wp Try.prog o a w K Q else E := by
  rw [if_pos hw]
  exact wp_app s x t u ty ho hty v y hs hx hr h

/-- A composite literal of bytes turned into bytes: its block is marked behind its end. -/
theorem At.mark {w : World} {c : Array Value} {e : TypeId} {l : List UInt8} (hc : c.toList = l.map bv) (f : Nat × Nat) : At (w.alloc (.cells c e f)) (some ⟨w.heap.size, 0, none⟩) l := by
  intro k hk
  refine ⟨rfl, ?_⟩
  have e1 : adr (some ⟨w.heap.size, 0, none⟩) k = ⟨w.heap.size, k, none⟩ := by simp [adr, Addr.add_lit]
  rw [e1, cell_of_row _ w.heap.size k c e f (heap_alloc_new w _)]
  have : c.toList[k]? = some (bv l[k]) := by rw [hc]; simp [hk]
  simpa [bv] using this

/-- A slice of bytes that came in, as the shell of a proof tells it. -/
theorem row_at {w : World} {a : Option Addr} {len cap : Nat} {zs : List Int}
    (h : (a = none ∧ len = 0 ∧ cap = 0 ∧ zs = []) ∨ ∃ x, a = some x ∧ len ≤ cap ∧ cap ≤ maxLen ∧ zs.length = cap ∧ (∀ i, i < zs.length → w.cell? (x.add i) = some (.int .u8 (zs.getD i 0))) ∧ ∀ n ∈ zs, (Lit.int .u8 n).wf = true) :
    ∃ l : List UInt8, l.length = len ∧ len ≤ cap ∧ len ≤ maxLen ∧ At w a l ∧ (a = none → cap = 0) := by
  rcases h with ⟨rfl, rfl, rfl, rfl⟩ | ⟨x, rfl, hl, hm, hz, hc, hw⟩
  · exact ⟨[], rfl, Nat.le_refl _, by unfold maxLen; omega, At.nil _ _, fun _ => rfl⟩
  · refine ⟨(zs.take len).map fun z => UInt8.ofNat z.toNat, by simp; omega, hl, by omega, ?_, fun e => by cases e⟩
    intro k hk
    simp at hk
    refine ⟨rfl, ?_⟩
    have hk' : k < zs.length := by omega
    have := hc k hk'
    have hb := hw zs[k] (List.getElem_mem hk')
    have hbd : 0 ≤ zs[k] ∧ zs[k] ≤ 255 := by
      simp [Lit.wf, IntKind.min, IntKind.max, IntKind.signed, IntKind.bits] at hb
      omega
    simp only [adr, Option.getD_some, this]
    have e : zs.getD k 0 = zs[k] := by simp [List.getD, hk']
    rw [e]
    simp only [List.getElem_map, List.getElem_take, UInt8.toNat_ofNat']
    congr 2
    omega

theorem Own.form {w : World} {B : Nat} {v : Value} {l : List UInt8} (h : Own w B v l) (h0 : 0 < l.length) :
    ∃ g cap, v = .slice (some ⟨g, 0, none⟩) l.length cap ∧ B ≤ g ∧ g < w.heap.size ∧ l.length ≤ cap ∧ cap ≤ maxLen := by
  obtain ⟨_, h⟩ := h
  rcases h with ⟨rfl, h1⟩ | ⟨g, cap, cur, rfl, hB, hg, h1, h2, _⟩
  · omega
  · exact ⟨g, cap, rfl, hB, (Array.getElem?_eq_some_iff.1 hg).1, h1, h2⟩
theorem Own.cellAt {w : World} {B g cap n : Nat} {l : List UInt8} (h : Own w B (.slice (some ⟨g, 0, none⟩) n cap) l) (hn : l.length = n) (k : Nat) (hk : k < l.length) : w.cell? ⟨g, k, none⟩ = some (bv l[k]) := by
  subst hn
  rw [World.ownsRow.cellAt h k (by omega)]; simp [hk]
theorem Own.frz {w : World} {B g cap n : Nat} {l : List UInt8} (h : Own w B (.slice (some ⟨g, 0, none⟩) n cap) l) (hn : l.length = n) (k : Nat) : w.frozen? ⟨g, k, none⟩ = false := by
  subst hn
  exact World.ownsRow.frozenAt h k
theorem Own.set {w : World} {B g cap n : Nat} {l : List UInt8} (h : Own w B (.slice (some ⟨g, 0, none⟩) n cap) l) (hn : l.length = n) (k : Nat) (d : UInt8) :
    Own (w.setCell ⟨g, k, none⟩ (bv d)) B (.slice (some ⟨g, 0, none⟩) n cap) (l.set k d) := by
  subst hn
  have := World.ownsRow.stored h k (bv d)
  unfold Own
  rw [List.length_set, List.map_set]
  exact this.1
theorem Own.grown {w w' : World} {B : Nat} {v : Value} {l : List UInt8} {row : Option Nat} (h : Own w B v l) (hg : w.grownBy w' row) (hne : v.ownBlock = none ∨ v.ownBlock ≠ row) : Own w' B v l := World.ownsRow.kept h hg hne
/-- Below what is one's own nothing turns by an append to it. -/
theorem Own.below {w w' : World} {B : Nat} {v : Value} {l : List UInt8} (h : Own w B v l) (hB : B ≤ w.heap.size) (hg : w.grownBy w' v.ownBlock) : Below B w w' :=
  ⟨hg.os, hg.tape, hg.output, hg.size, fun k hk => hg.block k (by omega) (fun e => by have := (World.ownsRow.lt h k e.symm).1; omega)⟩
/-- What is one's own stays so while others make memory. -/
theorem Own.stay {w w' : World} {B : Nat} {v : Value} {l : List UInt8} (h : Own w B v l) (hb : Below w.heap.size w w') : Own w' B v l := by
  refine ⟨h.1, ?_⟩
  rcases h.2 with hn | ⟨g, cap, cur, rfl, h1, hg, rest⟩
  · exact .inl hn
  · refine .inr ⟨g, cap, cur, rfl, h1, ?_, rest⟩
    rw [hb.block g (Array.getElem?_eq_some_iff.1 hg).1]; exact hg
theorem Own.base {w : World} {B C : Nat} {v : Value} {l : List UInt8} (h : Own w B v l) (hC : C ≤ B) : Own w C v l := by
  refine ⟨h.1, ?_⟩
  rcases h.2 with hn | ⟨g, cap, cur, rfl, h1, rest⟩
  · exact .inl hn
  · exact .inr ⟨g, cap, cur, rfl, by omega, rest⟩

/-- `make([]byte, n)`. -/
theorem run_make (w : World) (n : Nat) (hn : n ≤ 140737488355328) :
    ∃ v' w', (Instr.makeSlice 32 (.int .i64 (n : Int)) (.int .i64 (n : Int))).run Try.prog w = .ok v' w' ∧ (v' = .slice (some ⟨w.heap.size, 0, none⟩) n n ∧ Own w' w.heap.size v' (List.replicate n 0) ∧ Below w.heap.size w w') := by
  obtain ⟨i, hi, hz0, hz1, hz2⟩ := info_parts infoB
  obtain ⟨w', hr, h1, h2⟩ := run_make_full (P := Try.prog) w w.heap.size 32 5 i (.int .u8 0) 1 sliceB hi hz0 hz1 .i64 .i64 n (by rw [hz2]; omega) (by unfold maxLen; omega) (Nat.le_refl _)
  refine ⟨_, w', hr, rfl, ?_, ⟨h2.os, h2.tape, h2.output, h2.size, fun k hk => h2.block k hk (by simp)⟩⟩
  unfold Own
  rw [List.length_replicate]
  have e : (madeCells (Value.int .u8 0).cells (n * 1)).toList = (List.replicate n (0 : UInt8)).map bv := by
    apply List.ext_getElem
    · simp [size_madeCells]
    · intro k h1 h2
      simp [madeCells, Value.cells, bv, Nat.mod_one]
  rw [← e]
  exact h1
theorem wp_make {o : Oper} {a : Act} {w : World} {K : Act → World → Prop} {Q : Exit → Act → World → Prop} (s x : Operand) (t : TypeId)
    (ho : o.op = .makeSlice t s x) {R : Value → World → Prop} (v y : Value) (hs : a.eval s = v) (hx : a.eval x = y)
    (hr : ∃ v' w', (Instr.makeSlice t v y).run Try.prog w = .ok v' w' ∧ R v' w') (h : ∀ v' w', R v' w' → K (a.put o.dst v') w') : o.wp Try.prog a w K Q := by
  obtain ⟨v', w', hr, h2⟩ := hr
  unfold Oper.wp execOp
  simp only [ho, Sem.run_bind, hs, hx, hr, Result.andThen_ok]
  exact h v' w' h2
theorem wpList_make {ops : Array Oper} {rest : List Oper} {o : Oper} {a : Act} {w : World} {Q : Exit → Act → World → Prop} (hw : Region.wanted o (yielded ops a.tmps) = true) (s x : Operand) (t : TypeId)
    (ho : o.op = .makeSlice t s x) {R : Value → World → Prop} (v y : Value) (hs : a.eval s = v) (hx : a.eval x = y)
    (hr : ∃ v' w', (Instr.makeSlice t v y).run Try.prog w = .ok v' w' ∧ R v' w') (h : ∀ v' w', R v' w' → wpList Try.prog ops Q rest (a.put o.dst v') w') : wpList Try.prog ops Q (o :: rest) a w := by
  unfold wpList
  rw [if_pos hw]
  exact .inl (wp_make s x t ho v y hs hx hr h)

/-- `append(nil, x...)`: what is got is the call's own. -/
theorem run_app0 (w : World) (ad : Option Addr) (m : List UInt8) (n cb : Nat) (hn : m.length = n) (hat : At w ad m) (hlen : n ≤ 140737488355328) :
    ∃ v' w', (Builtin.append_ #[32, 32] 32 #[.slice none 0 0, .slice ad n cb]).run Try.prog w = .ok v' w' ∧ (Own w' w.heap.size v' m ∧ Below w.heap.size w w') := by
  obtain ⟨v', w', h1, h2, h3⟩ := run_app 32 w w.heap.size _ [] (Own.nil _ _) ad m n cb hn hat (by simpa using hlen) (Nat.le_refl _)
  exact ⟨v', w', h1, by simpa using h2, (Own.nil w w.heap.size).below (Nat.le_refl _) h3⟩
theorem run_app1 (w : World) (B : Nat) (v : Value) (l : List UInt8) (hown : Own w B v l) (ad : Option Addr) (m : List UInt8) (n cb : Nat) (hn : m.length = n) (hat : At w ad m)
    (hlen : l.length + n ≤ 140737488355328) (hB : B ≤ w.heap.size) :
    ∃ v' w', (Builtin.append_ #[32, 32] 32 #[v, .slice ad n cb]).run Try.prog w = .ok v' w' ∧ (Own w' B v' (l ++ m) ∧ Below B w w') := by
  obtain ⟨v', w', h1, h2, h3⟩ := run_app 32 w B v l hown ad m n cb hn hat hlen hB
  exact ⟨v', w', h1, h2, hown.below hB h3⟩

/-- What is one's own, written out: its block, and what a walk may want of it. -/
structure OwnAt (w : World) (B : Nat) (g cap : Nat) (l : List UInt8) : Prop where
  own : Own w B (.slice (some ⟨g, 0, none⟩) l.length cap) l
  ge : B ≤ g
  lt : g < w.heap.size
  room : l.length ≤ cap
  small : cap ≤ maxLen
theorem Own.at {w : World} {B : Nat} {v : Value} {l : List UInt8} (h : Own w B v l) (h0 : 0 < l.length) : ∃ g cap, v = .slice (some ⟨g, 0, none⟩) l.length cap ∧ OwnAt w B g cap l := by
  obtain ⟨g, cap, rfl, h1, h2, h3, h4⟩ := h.form h0
  exact ⟨g, cap, rfl, h, h1, h2, h3, h4⟩
theorem OwnAt.sl {w : World} {B g cap : Nat} {l : List UInt8} (h : OwnAt w B g cap l) : At w (some ⟨g, 0, none⟩) l := by
  obtain ⟨a, c, e, _, _, ha⟩ := h.own.sl
  cases e; exact ha
theorem OwnAt.stay {w w' : World} {B g cap : Nat} {l : List UInt8} (h : OwnAt w B g cap l) (hb : Below w.heap.size w w') : OwnAt w' B g cap l :=
  ⟨h.own.stay hb, h.ge, Nat.lt_of_lt_of_le h.lt hb.size, h.room, h.small⟩
theorem OwnAt.set {w : World} {B g cap : Nat} {l : List UInt8} (h : OwnAt w B g cap l) (k : Nat) (d : UInt8) : OwnAt (w.setCell ⟨g, k, none⟩ (bv d)) B g cap (l.set k d) := by
  refine ⟨?_, h.ge, by simpa [World.setCell] using h.lt, by simpa using h.room, h.small⟩
  have := h.own.set rfl k d
  rwa [List.length_set]
theorem OwnAt.cell {w : World} {B g cap : Nat} {l : List UInt8} (h : OwnAt w B g cap l) {k : Nat} (hk : k < l.length) : w.cell? ⟨g, k, none⟩ = some (bv l[k]) := h.own.cellAt rfl k hk
theorem OwnAt.frz {w : World} {B g cap : Nat} {l : List UInt8} (h : OwnAt w B g cap l) (k : Nat) : w.frozen? ⟨g, k, none⟩ = false := h.own.frz rfl k

theorem idx_own (g n cap k : Nat) (i : Int) (hi : i = (k : Int)) (hk : k < n) (wx : World) :
    (Instr.indexAt 32 (.slice (some ⟨g, 0, none⟩) n cap) (.int .i64 i)).run Try.prog wx = .ok (.pointer (some ⟨g, k, none⟩)) wx := by
  rw [idx_at (some ⟨g, 0, none⟩) n cap (fun _ => rfl) k i hi hk wx]
  simp [adr, Addr.add_lit]
theorem xor_u8 (x y : UInt8) : bits .xor .u8 (x.toNat : Int) (y.toNat : Int) = ((x ^^^ y).toNat : Int) := by
  have hx := x.toNat_lt
  have hy := y.toNat_lt
  have h : x.toNat ^^^ y.toNat < 256 := Nat.xor_lt_two_pow (n := 8) (by omega) (by omega)
  have e1 : IntKind.u8.bits = 8 := rfl
  simp only [bits, e1, BitVec.ofInt_natCast, BitVec.toNat_xor, BitVec.toNat_ofNat, UInt8.toNat_xor]
  rw [Nat.mod_eq_of_lt (by omega), Nat.mod_eq_of_lt (by omega), IntKind.wrap_u8]
  omega
/-- A byte that came in. -/
theorem u8_of (n : Int) (h : 0 ≤ n ∧ n ≤ 255) : ∃ c : UInt8, n = (c.toNat : Int) := ⟨UInt8.ofNat n.toNat, by rw [UInt8.toNat_ofNat']; omega⟩
theorem u8_wf {n : Int} (h : (Lit.int .u8 n).wf = true) : 0 ≤ n ∧ n ≤ 255 := by
  simp [Lit.wf, IntKind.min, IntKind.max, IntKind.signed, IntKind.bits] at h
  omega
theorem i64_wf {n : Int} (h : (Lit.int .i64 n).wf = true) : -9223372036854775808 ≤ n ∧ n ≤ 9223372036854775807 := by
  simp [Lit.wf, IntKind.min, IntKind.max, IntKind.signed, IntKind.bits] at h
  omega

/-- `append(v, c)` of one byte: the translation lays it in a block of its own first. -/
theorem run_one (w : World) (B : Nat) (v : Value) (l : List UInt8) (hown : Own w B v l) (x : UInt8) (c : Array Value) (hc : c.toList = [bv x]) (hlen : l.length + 1 ≤ 140737488355328) (hB : B ≤ w.heap.size) :
    ∃ v' w', (Builtin.append_ #[32, 32] 32 #[v, .slice (some ⟨w.heap.size, 0, none⟩) 1 1]).run Try.prog (w.alloc (.cells c 5)) = .ok v' w' ∧ (Own w' B v' (l ++ [x]) ∧ Below B w w') := by
  have hn := own_new w w.heap.size [x] c 1 rfl (by simpa using hc) (by simp [maxLen]) (Nat.le_refl _)
  obtain ⟨a, cap, e1, _, _, hat⟩ := hn.sl
  cases e1
  have hb : Below w.heap.size w (w.alloc (.cells c 5)) := (Below.refl _ _).alloc (Nat.le_refl _) _
  obtain ⟨v', w', h1, h2, h3⟩ := run_app1 (w.alloc (.cells c 5)) B v l (hown.stay hb) _ [x] 1 1 rfl hat hlen (by simp; omega)
  exact ⟨v', w', h1, h2, (hb.mono hB).trans h3⟩

/-- The same, the new block's number given. -/
theorem run_oneG (w : World) (g : Nat) (hg : g = w.heap.size) (B : Nat) (v : Value) (l : List UInt8) (hown : Own w B v l) (x : UInt8) (c : Array Value) (hc : c.toList = [bv x]) (hlen : l.length + 1 ≤ 140737488355328) (hB : B ≤ g) :
    ∃ v' w', (Builtin.append_ #[32, 32] 32 #[v, .slice (some ⟨g, 0, none⟩) 1 1]).run Try.prog (w.alloc (.cells c 5)) = .ok v' w' ∧ (Own w' B v' (l ++ [x]) ∧ Below B w w') := by
  subst hg
  exact run_one w B v l hown x c hc hlen hB

end Go.Proofs.Ytkkailggpfmgaaa
