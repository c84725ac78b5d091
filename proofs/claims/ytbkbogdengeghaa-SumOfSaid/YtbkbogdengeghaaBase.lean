/- What all walks share: slices of bytes as lists. -/
import Derived.Test.YtbkbogdengeghaaProg
import Derived.WalkLawsBesides
import Derived.WalkSpells
import Derived.Deep.QuietTactic
import Derived.BigQuiet
import Derived.WalkSmall
import Derived.Deep.RegionHeld3
import Derived.Lib.AppendStr
import Derived.Lib.SlBytesConst
namespace Go.Proofs.Ytbkbogdengeghaa
open Go.RowKit

/-- A fact kept from the walk. -/
theorem hid {p : Prop} (h : p) : Hid p := h

/-- The address of place `k` behind a slice's head. -/
def adr (a : Option Addr) (k : Nat) : Addr := (a.getD default).add k
/-- The bytes `l` stand behind the head `a`. -/
def At (w : World) (a : Option Addr) (l : List UInt8) : Prop := ∀ k (h : k < l.length), a.isSome = true ∧ w.cell? (adr a k) = some (.int .u8 (l[k].toNat : Int))

theorem sliceT : Try.prog.underlying 22 = some (.slice (Try.prog.elem 22)) := by kernel_rfl
theorem sizeT (w : World) : (sizeOf (Try.prog.elem 22)).run Try.prog w = .ok 1 w := by kernel_rfl

theorem idx_run (a : Option Addr) (n cap : Nat) (hn : 0 < n → a.isSome = true) (k : Nat) (wx : World) (hk : k < n) :
    (Instr.indexAt 22 (.slice a n cap) (.int .i64 k)).run Try.prog wx = .ok (.pointer (some (adr a k))) wx := by
  cases a with
  | none => simp at hn; omega
  | some a =>
    rw [run_indexAt_slice (h := sliceT), if_pos ⟨by omega, by omega⟩, sizeT]
    simp [Result.andThen, adr]

theorem idx_at (a : Option Addr) (n cap : Nat) (hn : 0 < n → a.isSome = true) (k : Nat) (i : Int) (hi : i = (k : Int)) (hk : k < n) (wx : World) :
    (Instr.indexAt 22 (.slice a n cap) (.int .i64 i)).run Try.prog wx = .ok (.pointer (some (adr a k))) wx := by
  rw [hi]; exact idx_run a n cap hn k wx hk

theorem At.ok {w : World} {a : Option Addr} {l : List UInt8} (h : At w a l) (hl : 0 < l.length) : a.isSome = true := (h 0 hl).1
theorem At.cell {w : World} {a : Option Addr} {l : List UInt8} (h : At w a l) {k : Nat} (hk : k < l.length) : w.cell? (adr a k) = some (.int .u8 (l[k].toNat : Int)) := (h k hk).2

/-- A byte as a value. -/
def bv (c : UInt8) : Value := .int .u8 (c.toNat : Int)
theorem bv_def (c : UInt8) : bv c = .int .u8 (c.toNat : Int) := rfl
/-- The slice `v` is one of the call's own (blocks from `B` on), and holds the bytes `l`. -/
def Own (w : World) (B : Nat) (v : Value) (l : List UInt8) : Prop := w.ownsRow B 5 1 v l.length (l.map bv)

theorem Own.nil (w : World) (B : Nat) : Own w B (.slice none 0 0) [] := World.ownsRow_nil _ _ _ _

/-- A slice of bytes, as it lies in a world: its head, its length, its capacity. -/
def Sl (w : World) (v : Value) (l : List UInt8) : Prop := ∃ a cap, v = .slice a l.length cap ∧ l.length ≤ cap ∧ cap ≤ maxLen ∧ At w a l

theorem Own.sl {w : World} {B : Nat} {v : Value} {l : List UInt8} (h : Own w B v l) : Sl w v l := by
  obtain ⟨_, h⟩ := h
  rcases h with ⟨rfl, h0⟩ | ⟨g, cap, cur, rfl, hB, hg, h1, h2, h3, h4⟩
  · refine ⟨none, 0, by rw [h0], by omega, by unfold maxLen; omega, ?_⟩
    intro k hk; omega
  · refine ⟨some ⟨g, 0, none⟩, cap, rfl, h1, h2, ?_⟩
    intro k hk
    refine ⟨rfl, ?_⟩
    have e : adr (some ⟨g, 0, none⟩) k = ⟨g, k, none⟩ := by simp [adr, Addr.add_lit]
    rw [e, cell_of_row w g k cur 5 (0, 0) hg]
    have h5 : (cur.toList.take (l.length * 1))[k]? = some (bv l[k]) := by rw [h4]; simp [hk]
    rw [List.getElem?_take] at h5
    split at h5
    · simpa [bv] using h5
    · cases h5

theorem At.below {w w' : World} {a : Option Addr} {l : List UInt8} (h : At w a l) {B : Nat} (hb : Below B w w') (ha : ∀ x, a = some x → x.block < B) : At w' a l := by
  intro k hk
  obtain ⟨h1, h2⟩ := h k hk
  refine ⟨h1, ?_⟩
  obtain ⟨x, rfl⟩ := Option.isSome_iff_exists.1 h1
  have e : (adr (some x) k).block = x.block := by simp [adr]; unfold Addr.add; split <;> rfl
  rw [← h2]
  exact hb.cell (by rw [e]; exact ha x rfl)
/-- Cells that are there lie in a block that is there. -/
theorem At.lt {w : World} {a : Option Addr} {l : List UInt8} (h : At w a l) (hl : 0 < l.length) : ∀ x, a = some x → x.block < w.heap.size := by
  rintro x rfl
  have h2 := (h 0 hl).2
  have e : adr (some x) 0 = x := by simp [adr, Addr.add]
  rw [e] at h2
  exact World.block_lt_of_cell? w x h2
theorem At.all {w w' : World} {a : Option Addr} {l : List UInt8} (h : At w a l) (hb : Below w.heap.size w w') : At w' a l := by
  intro k hk
  exact (h.below hb (h.lt (by omega))) k hk
theorem At.drewN {w : World} {a : Option Addr} {l : List UInt8} (h : At w a l) (n : Nat) : At (w.drewN n) a l := h
theorem At.nil (w : World) (a : Option Addr) : At w a [] := by intro k hk; simp at hk
theorem At.take {w : World} {a : Option Addr} {l : List UInt8} (h : At w a l) (n : Nat) : At w a (l.take n) := by
  intro k hk
  obtain ⟨h1, h2⟩ := h k (by simp at hk; omega)
  exact ⟨h1, by rw [h2]; simp⟩
theorem adr_add (a : Option Addr) (i k : Nat) : adr (a.map (·.add i)) k = if a.isSome then adr a (i + k) else adr none k := by
  cases a with
  | none => rfl
  | some x =>
    simp only [adr, Option.map_some, Option.getD_some, Option.isSome_some, if_true]
    unfold Addr.add
    by_cases hi : i = 0
    · subst hi; simp
    · by_cases hk : k = 0
      · subst hk; simp [hi]
      · simp [hi, hk, Nat.add_assoc]
theorem At.drop {w : World} {a : Option Addr} {l : List UInt8} (h : At w a l) (n : Nat) : At w (a.map (·.add n)) (l.drop n) := by
  intro k hk
  simp at hk
  obtain ⟨h1, h2⟩ := h (n + k) (by omega)
  refine ⟨by simpa using h1, ?_⟩
  rw [adr_add, if_pos h1, h2]; simp
/-- The head of `b[lo:hi]`. -/
def cutH (a : Option Addr) (lo cap : Nat) : Option Addr := if cap = lo then a else a.map (·.add (lo * 1))
theorem At.cut {w : World} {a : Option Addr} {l : List UInt8} (h : At w a l) (lo n cap : Nat) (hm : n ≤ cap - lo) : At w (cutH a lo cap) ((l.drop lo).take n) := by
  unfold cutH
  split
  · rename_i e
    rw [show n = 0 by omega]
    exact At.nil _ _
  · rw [Nat.mul_one]
    exact (h.drop lo).take n
theorem cut_lh (a : Option Addr) (n cap lo hi : Nat) (wx : World) (h1 : lo ≤ hi) (h2 : hi ≤ cap) :
    (Instr.slice 22 (.slice a n cap) (some (.int .i64 lo)) (some (.int .i64 hi)) none).run Try.prog wx = .ok (.slice (cutH a lo cap) (hi - lo) (cap - lo)) wx := by
  rw [run_slice_lh wx _ a n cap sliceT .i64 .i64 lo hi (by omega) (by omega) (by omega), sizeT]
  simp [Result.andThen, sliced, cutH]
theorem cut_h (a : Option Addr) (n cap hi : Nat) (wx : World) (h2 : hi ≤ cap) :
    (Instr.slice 22 (.slice a n cap) none (some (.int .i64 hi)) none).run Try.prog wx = .ok (.slice (cutH a 0 cap) hi cap) wx := by
  rw [run_slice_h wx _ a n cap sliceT .i64 hi (by omega) (by omega), sizeT]
  simp [Result.andThen, sliced, cutH]
theorem cut_l (a : Option Addr) (n cap lo : Nat) (wx : World) (h1 : lo ≤ n) (h2 : n ≤ cap) :
    (Instr.slice 22 (.slice a n cap) (some (.int .i64 lo)) none none).run Try.prog wx = .ok (.slice (cutH a lo cap) (n - lo) (cap - lo)) wx := by
  have hn : ((lo : Int)) ≤ (n : Int) := by omega
  rw [run_slice_any wx _ a n cap sliceT]
  have hb : (Instr.sliceBounds true n cap (some (.int .i64 (lo : Int))) none none).run Try.prog wx = .ok (lo, n, cap) wx := by
    simp [Instr.sliceBounds, run_sliceBound, hn, h2]
  rw [hb]
  simp only [Result.andThen]
  rw [sizeT]
  simp [Result.andThen, sliced, cutH]

theorem cut_lhI (a : Option Addr) (n cap lo hi : Nat) (i j : Int) (ei : i = lo) (ej : j = hi) (h1 : lo ≤ hi) (h2 : hi ≤ cap) (wx : World) :
    (Instr.slice 22 (.slice a n cap) (some (.int .i64 i)) (some (.int .i64 j)) none).run Try.prog wx = .ok (.slice (cutH a lo cap) (hi - lo) (cap - lo)) wx := by
  rw [ei, ej]; exact cut_lh a n cap lo hi wx h1 h2
theorem cut_hI (a : Option Addr) (n cap hi : Nat) (j : Int) (ej : j = hi) (h2 : hi ≤ cap) (wx : World) :
    (Instr.slice 22 (.slice a n cap) none (some (.int .i64 j)) none).run Try.prog wx = .ok (.slice (cutH a 0 cap) hi cap) wx := by
  rw [ej]; exact cut_h a n cap hi wx h2
theorem cut_lI (a : Option Addr) (n cap lo : Nat) (i : Int) (ei : i = lo) (h1 : lo ≤ n) (h2 : n ≤ cap) (wx : World) :
    (Instr.slice 22 (.slice a n cap) (some (.int .i64 i)) none none).run Try.prog wx = .ok (.slice (cutH a lo cap) (n - lo) (cap - lo)) wx := by
  rw [ei]; exact cut_l a n cap lo wx h1 h2
theorem At.h {w : World} {a : Option Addr} {l : List UInt8} (h : At w a l) (n cap : Nat) (hm : n ≤ cap) : At w (cutH a 0 cap) (l.take n) := by
  have := h.cut 0 n cap (by omega); rwa [List.drop_zero] at this
theorem At.l {w : World} {a : Option Addr} {l : List UInt8} (h : At w a l) (n cap : Nat) (hm : l.length ≤ cap) : At w (cutH a n cap) (l.drop n) := by
  have := h.cut n (l.length - n) cap (by omega)
  rwa [List.take_of_length_le (by rw [List.length_drop]; omega)] at this

theorem u8T : Try.prog.underlying 5 = some (.int .u8) := by kernel_rfl

/-- One more step. -/
theorem bst {w w1 w2 : World} (h : Below w.heap.size w w1) (k : Below w1.heap.size w1 w2) : Below w.heap.size w w2 := h.trans (k.mono h.size)
theorem bstB {B : Nat} {w w1 w2 : World} (hB : B ≤ w.heap.size) (h : Below B w w1) (k : Below w1.heap.size w1 w2) : Below B w w2 := h.trans (k.mono (Nat.le_trans hB h.size))
theorem undrew {B : Nat} {w w' : World} (h : Below B w.drew w') : Below B w w' := ⟨h.os, h.tape, h.output, h.size, h.block⟩
theorem undrewN {B n : Nat} {w w' : World} (h : Below B (w.drewN n) w') : Below B w w' := ⟨h.os, h.tape, h.output, h.size, h.block⟩

theorem own_new (w : World) (B : Nat) (l : List UInt8) (c : Array Value) (n : Nat) (hn : n = l.length) (hc : c.toList = l.map bv) (hm : l.length ≤ maxLen) (hB : B ≤ w.heap.size) :
    Own (w.alloc (.cells c 5)) B (.slice (some ⟨w.heap.size, 0, none⟩) n n) l := by
  subst hn
  have hs : c.size = l.length := by rw [← Array.length_toList, hc]; simp
  refine ⟨by simp, .inr ⟨w.heap.size, l.length, c, rfl, hB, heap_alloc_new w _, Nat.le_refl _, hm, by omega, ?_⟩⟩
  rw [hc, Nat.mul_one, List.take_of_length_le (by simp)]
/-- A byte out of a number. -/
theorem bv_of (n : Int) (h0 : 0 ≤ n) (h1 : n < 256) : bv (UInt8.ofNat n.toNat) = .int .u8 n := by
  unfold bv
  congr 1
  rw [UInt8.toNat_ofNat']
  omega

theorem infoB : (Try.prog.info? 5).map (fun i => (i.zero, i.size, i.bytes)) = some (some (.int .u8 0), 1, 1) := by kernel_rfl
theorem sliceB : Try.prog.underlying 22 = some (.slice 5) := by kernel_rfl
theorem bv_one (l : List UInt8) : ∀ u ∈ l.map bv, u.oneCell' = true := by
  intro u hu
  obtain ⟨c, _, rfl⟩ := List.mem_map.1 hu
  rfl

/-- `append(v, x...)` to a slice of the call's own, as it runs. -/
theorem run_app (ty : TypeId) (w : World) (B : Nat) (v : Value) (l : List UInt8) (hown : Own w B v l) (ad : Option Addr) (m : List UInt8) (n cb : Nat) (hn : m.length = n) (hat : At w ad m)
    (hlen : l.length + n ≤ 140737488355328) (hB : B ≤ w.heap.size) :
    ∃ v' w', (Builtin.append_ #[22, 22] 22 #[v, .slice ad n cb]).run Try.prog w = .ok v' w' ∧ Own w' B v' (l ++ m) ∧ w.grownBy w' v.ownBlock := by
  subst hn
  obtain ⟨i, hi, hz0, hz1, hz2⟩ := info_parts infoB
  have key : ∀ x : Addr, At w (some x) m → ∃ v' w', (Builtin.append_ #[22, 22] 22 #[v, .slice (some x) m.length cb]).run Try.prog w = .ok v' w' ∧ Own w' B v' (l ++ m) ∧ w.grownBy w' v.ownBlock := by
    intro x hat
    obtain ⟨v', w', h1, h2, h3, _⟩ := run_append_own (P := Try.prog) w B 22 22 5 i (.int .u8 0) 1 1 sliceB hi hz0 hz1 hz2 rfl (by omega) v l.length (l.map bv) hown x m.length cb (m.map bv) (by simp)
      (by
        intro j u hj
        simp only [List.getElem?_map, Option.map_eq_some_iff] at hj
        obtain ⟨c, hc, rfl⟩ := hj
        obtain ⟨hk, rfl⟩ := List.getElem?_eq_some_iff.1 hc
        exact (hat j hk).2) (bv_one m) (by unfold maxLen; omega) (by omega) hB
    refine ⟨v', w', h1, ?_, h3⟩
    unfold Own
    rw [List.length_append, List.map_append]
    exact h2
  cases ad with
  | some x => exact key x hat
  | none =>
    have hm : m = [] := by
      cases m with
      | nil => rfl
      | cons c m => have := (hat 0 (by simp)).1; simp at this
    subst hm
    refine ⟨v, w, ?_, by simpa using hown, rfl, rfl, rfl, Nat.le_refl _, fun _ _ _ => rfl⟩
    rcases hown.2 with ⟨rfl, h0⟩ | ⟨g, cap, cur, rfl, _, _, hnc, _⟩
    · simp [Builtin.append_, run_underlying sliceB, sizeOf, typeInfo, hi, Builtin.lenOf, Builtin.firstCells]
    · simp [Builtin.append_, run_underlying sliceB, sizeOf, typeInfo, hi, Builtin.lenOf, Builtin.firstCells, hnc, storeCells]

/-- `append(v, x...)` to a slice that has no room: a new block. -/
theorem run_grow (w : World) (a : Option Addr) (l : List UInt8) (k ca : Nat) (hk : l.length = k) (hal : At w a l) (ad : Option Addr) (m : List UInt8) (n cb : Nat) (hn : m.length = n) (hat : At w ad m)
    (hnil : a = none → k = 0 ∧ ca = 0) (hg : ca < k + n) (h0 : 0 < n) (hlen : k + n ≤ 140737488355328) :
    ∃ v' w', (Builtin.append_ #[22, 22] 22 #[.slice a k ca, .slice ad n cb]).run Try.prog w = .ok v' w' ∧ Own w' w.heap.size v' (l ++ m) ∧ Below w.heap.size w w' := by
  subst hk hn
  obtain ⟨i, hi, hz0, hz1, hz2⟩ := info_parts infoB
  have cells : ∀ (x : Addr) (q : List UInt8), At w (some x) q → ∀ j u, (q.map bv)[j]? = some u → w.cell? (x.add j) = some u := by
    intro x q hq j u hj
    simp only [List.getElem?_map, Option.map_eq_some_iff] at hj
    obtain ⟨c, hc, rfl⟩ := hj
    obtain ⟨hk, rfl⟩ := List.getElem?_eq_some_iff.1 hc
    exact (hq j hk).2
  cases ad with
  | none =>
    cases m with
    | nil => simp at h0
    | cons c m => have := (hat 0 (by simp)).1; simp at this
  | some x =>
    have fin : ∀ (old : Nat), (Builtin.append_ #[22, 22] 22 #[.slice a l.length ca, .slice (some x) m.length cb]).run Try.prog w =
        .ok (.slice (some ⟨w.heap.size, 0, none⟩) (l.length + m.length) (grownCap w (l.length + m.length) old 5))
          (w.drew.alloc (.cells ((l.map bv).toArray ++ (m.map bv).toArray ++ Builtin.zeroCells #[Value.int .u8 0] (grownCap w (l.length + m.length) old 5 - (l.length + m.length))) 5)) →
        ∃ v' w', (Builtin.append_ #[22, 22] 22 #[.slice a l.length ca, .slice (some x) m.length cb]).run Try.prog w = .ok v' w' ∧ Own w' w.heap.size v' (l ++ m) ∧ Below w.heap.size w w' := by
      intro old hr
      have hge := grownCap_ge w (l.length + m.length) old 5
      have hcm := grownCap_le_maxLen w (l.length + m.length) old 5 (by unfold maxLen; omega)
      refine ⟨_, _, hr, ?_, ((Below.refl _ _).drew).alloc (Nat.le_refl _) _⟩
      unfold Own
      rw [List.length_append]
      refine ⟨by simp, .inr ⟨w.heap.size, _, _, rfl, Nat.le_refl _, heap_alloc_new w.drew _, hge, hcm, ?_, ?_⟩⟩
      · simp [Builtin.zeroCells]; omega
      · simp only [Array.toList_append, List.append_assoc, Nat.mul_one]
        rw [← List.append_assoc, List.take_left' (by simp), List.map_append]
    cases a with
    | none =>
      obtain ⟨e1, e2⟩ := hnil rfl
      have hl : l = [] := List.eq_nil_of_length_eq_zero e1
      subst hl e2
      refine fin 0 ?_
      have hr := run_append_nil (P := Try.prog) w 22 22 5 i (.int .u8 0) sliceB hi hz0 x m.length cb (m.map bv) (by simp [hz1]) (cells x m hat) (by omega) (by omega) (by rw [hz2]; omega)
      simpa [Value.cells] using hr
    | some b =>
      refine fin ca ?_
      have hr := run_append_grow (P := Try.prog) w 22 22 5 i (.int .u8 0) sliceB hi hz0 b l.length ca (l.map bv) (by simp [hz1]) (cells b l hal) x m.length cb (m.map bv) (by simp [hz1]) (cells x m hat) hg (by omega) (growslice_fits hg (by rw [hz2]; omega))
      simpa [Value.cells] using hr

/-- The same of a string behind a slice of the call's own. -/
theorem run_str (w : World) (B : Nat) (v : Value) (l : List UInt8) (hown : Own w B v l) (s : ByteArray) (hlen : l.length + s.size ≤ 140737488355328) (hB : B ≤ w.heap.size) :
    ∃ v' w', (Builtin.append_ #[22, 9] 22 #[v, .string s]).run Try.prog w = .ok v' w' ∧ Own w' B v' (l ++ s.data.toList) ∧ w.grownBy w' v.ownBlock := by
  obtain ⟨i, hi, hz0, hz1, hz2⟩ := info_parts infoB
  obtain ⟨v', w', h1, h2, h3, _⟩   := Lib.run_append_own_string (P := Try.prog) w B 22 9 22 5 i sliceB (by kernel_rfl) hi hz0 hz1 hz2 v l.length (l.map bv) hown s (by unfold maxLen; omega) hlen hB
  refine ⟨v', w', h1, ?_, h3⟩
  unfold Own
  rw [List.length_append, List.map_append]
  have e : s.data.toList.length = s.size := by simp
  rw [e]
  exact h2

theorem wp_app {o : Oper} {a : Act} {w : World} {K : Act → World → Prop} {Q : Exit → Act → World → Prop} (s x : Operand) (t u ty : TypeId)
    (ho : o.op = .call { callee := .builtin .append, args := #[s, x], argTypes := #[t, u] }) (hty : o.type = ty) {R : Value → World → Prop} (v y : Value) (hs : a.eval s = v) (hx : a.eval x = y)
    (hr : ∃ v' w', (Builtin.append_ #[t, u] ty #[v, y]).run Try.prog w = .ok v' w' ∧ R v' w') (h : ∀ v' w', R v' w' → K (a.put o.dst v') w') : o.wp Try.prog a w K Q := by
  obtain ⟨v', w', hr, h2⟩ := hr
  unfold Oper.wp execOp
  simp only [ho, resolve, invoke, builtin, Sem.run_bind, Sem.run_pure, Result.andThen_ok, List.map_toArray, List.map_cons, List.map_nil, hs, hx, hty, hr]
  exact h v' w' h2

/-- In a region in the text's order. -/
theorem wpList_app {ops : Array Oper} {rest : List Oper} {o : Oper} {a : Act} {w : World} {Q : Exit → Act → World → Prop} (hw : Region.wanted o (yielded ops a.tmps) = true) (s x : Operand) (t u ty : TypeId)
    (ho : o.op = .call { callee := .builtin .append, args := #[s, x], argTypes := #[t, u] }) (hty : o.type = ty) {R : Value → World → Prop} (v y : Value) (hs : a.eval s = v) (hx : a.eval x = y)
    (hr : ∃ v' w', (Builtin.append_ #[t, u] ty #[v, y]).run Try.prog w = .ok v' w' ∧ R v' w') (h : ∀ v' w', R v' w' → wpList Try.prog ops Q rest (a.put o.dst v') w') : wpList Try.prog ops Q (o :: rest) a w := by
  unfold wpList
  rw [if_pos hw]
  exact .inl (wp_app s x t u ty ho hty v y hs hx hr h)
/-- In a region that draws its order. -/
theorem step_app {ops : Array Oper} {o : Oper} {a : Act} {w : World} {K : Act → World → Prop} {Q : Exit → Act → World → Prop} {E : Prop} (hw : Region.wanted o (yielded ops a.tmps) = true) (s x : Operand) (t u ty : TypeId)
    (ho : o.op = .call { callee := .builtin .append, args := #[s, x], argTypes := #[t, u] }) (hty : o.type = ty) {R : Value → World → Prop} (v y : Value) (hs : a.eval s = v) (hx : a.eval x = y)
    (hr : ∃ v' w', (Builtin.append_ #[t, u] ty #[v, y]).run Try.prog w = .ok v' w' ∧ R v' w') (h : ∀ v' w', R v' w' → K (a.put o.dst v') w') : if Region.wanted o (yielded ops a.tmps) = true then Oper.wp Try.prog o a w K Q else E := by
  rw [if_pos hw]
  exact wp_app s x t u ty ho hty v y hs hx hr h

/-- A composite literal of bytes turned into bytes: its block is marked behind its end. -/
theorem At.mark {w : World} {c : Array Value} {e : TypeId} {l : List UInt8} (hc : c.toList = l.map bv) (f : Nat × Nat) : At (w.alloc (.cells c e f)) (some ⟨w.heap.size, 0, none⟩) l := by
  intro k hk
  refine ⟨rfl, ?_⟩
  have e1 : adr (some ⟨w.heap.size, 0, none⟩) k = ⟨w.heap.size, k, none⟩ := by simp [adr, Addr.add_lit]
  rw [e1, cell_of_row _ w.heap.size k c e f (heap_alloc_new w _)]
  have : c.toList[k]? = some (bv l[k]) := by rw [hc]; simp [hk]
  simpa [bv] using this

/-- A slice of bytes that came in, as the shell of a proof tells it. -/
theorem row_at {w : World} {a : Option Addr} {len cap : Nat} {zs : List Int}
    (h : (a = none ∧ len = 0 ∧ cap = 0 ∧ zs = []) ∨ ∃ x, a = some x ∧ len ≤ cap ∧ cap ≤ maxLen ∧ zs.length = cap ∧ (∀ i, i < zs.length → w.cell? (x.add i) = some (.int .u8 (zs.getD i 0))) ∧ ∀ n ∈ zs, (Lit.int .u8 n).wf = true) :
    ∃ l : List UInt8, l.length = len ∧ len ≤ cap ∧ len ≤ maxLen ∧ At w a l ∧ (a = none → cap = 0) := by
  rcases h with ⟨rfl, rfl, rfl, rfl⟩ | ⟨x, rfl, hl, hm, hz, hc, hw⟩
  · exact ⟨[], rfl, Nat.le_refl _, by unfold maxLen; omega, At.nil _ _, fun _ => rfl⟩
  · refine ⟨(zs.take len).map fun z => UInt8.ofNat z.toNat, by simp; omega, hl, by omega, ?_, fun e => by cases e⟩
    intro k hk
    simp at hk
    refine ⟨rfl, ?_⟩
    have hk' : k < zs.length := by omega
    have := hc k hk'
    have hb := hw zs[k] (List.getElem_mem hk')
    have hbd : 0 ≤ zs[k] ∧ zs[k] ≤ 255 := by
      simp [Lit.wf, IntKind.min, IntKind.max, IntKind.signed, IntKind.bits] at hb
      omega
    simp only [adr, Option.getD_some, this]
    have e : zs.getD k 0 = zs[k] := by simp [List.getD, hk']
    rw [e]
    simp only [List.getElem_map, List.getElem_take, UInt8.toNat_ofNat']
    congr 2
    omega

end Go.Proofs.Ytbkbogdengeghaa
