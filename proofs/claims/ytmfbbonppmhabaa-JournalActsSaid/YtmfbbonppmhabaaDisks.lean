/- A disk as lists: no program in sight. The walks of layer 4's functions. The walk of Write. The walks of Waits, Bytes, done, Sync and Crash. The walks of done, Sync and Crash. -/
import Derived.Test.YtmfbbonppmhabaaGround
namespace Go.Proofs.Ytmfbbonppmhabaa
set_option linter.unusedVariables false
set_option linter.unusedSimpArgs false
open Go.RowKit

/-- What lasts, what waits (a place and its bytes), how often it was synced. -/
structure DSt where
  lasts : List UInt8
  waits : List (Nat × List UInt8)
  syncs : Nat

/-- The bytes behind `keep` more of the bytes that wait. -/
def dDone (l : List UInt8) (keep : Int) : List (Nat × List UInt8) → List UInt8
  | [] => l
  | x :: ws => dDone (splice l x.1 (x.2.take (min keep x.2.length).toNat)) (keep - (max 0 (min keep x.2.length))) ws
def dAll (l : List UInt8) : List (Nat × List UInt8) → List UInt8
  | [] => l
  | x :: ws => dAll (splice l x.1 x.2) ws
def dWaits : List (Nat × List UInt8) → Nat
  | [] => 0
  | x :: ws => x.2.length + dWaits ws

def DSt.new (n : Nat) : DSt := ⟨List.replicate n 0, [], 0⟩
def DSt.can (d : DSt) (a : Int) (n : Nat) : Int := if a < 0 then 1 else if (n : Int) > d.lasts.length ∨ a > (d.lasts.length : Int) - n then 3 else 0
def DSt.write (d : DSt) (a : Int) (b : List UInt8) : DSt := if d.can a b.length = 0 then { d with waits := d.waits ++ [(a.toNat, b)] } else d
def DSt.crash (d : DSt) (keep : Int) : DSt := { d with lasts := dDone d.lasts keep d.waits, waits := [] }
def DSt.sync (d : DSt) : DSt := { d.crash (dWaits d.waits) with syncs := d.syncs + 1 }
def DSt.bytes (d : DSt) : List UInt8 := dAll d.lasts d.waits

theorem splice_len {l : List UInt8} {k : Nat} {b : List UInt8} (h : k + b.length ≤ l.length) : (splice l k b).length = l.length := by simp [splice]; omega
theorem dAll_snoc : ∀ (ws : List (Nat × List UInt8)) (l : List UInt8) (x : Nat × List UInt8), dAll l (ws ++ [x]) = splice (dAll l ws) x.1 x.2
  | [], l, x => rfl
  | y :: ws, l, x => dAll_snoc ws _ x
theorem dAll_len : ∀ (ws : List (Nat × List UInt8)) (l : List UInt8), (∀ x ∈ ws, x.1 + x.2.length ≤ l.length) → (dAll l ws).length = l.length
  | [], l, h => rfl
  | x :: ws, l, h => by
    have e := splice_len (h x (by simp))
    rw [dAll, dAll_len ws _ (by intro y hy; rw [e]; exact h y (by simp [hy])), e]
theorem dDone_len : ∀ (ws : List (Nat × List UInt8)) (l : List UInt8) (keep : Int), (∀ x ∈ ws, x.1 + x.2.length ≤ l.length) → (dDone l keep ws).length = l.length
  | [], l, keep, h => rfl
  | x :: ws, l, keep, h => by
    have e : (splice l x.1 (x.2.take (min keep x.2.length).toNat)).length = l.length := by
      have := h x (by simp)
      refine splice_len ?_
      rw [List.length_take]; omega
    rw [dDone, dDone_len ws _ _ (by intro y hy; rw [e]; exact h y (by simp [hy])), e]
theorem dWaits_snoc : ∀ (ws : List (Nat × List UInt8)) (x : Nat × List UInt8), dWaits (ws ++ [x]) = dWaits ws + x.2.length
  | [], x => by simp [dWaits]
  | y :: ws, x => by rw [List.cons_append, dWaits, dWaits_snoc ws x, dWaits]; omega
theorem dWaits_take {ws : List (Nat × List UInt8)} {k : Nat} (h : k < ws.length) : dWaits (ws.take (k + 1)) = dWaits (ws.take k) + ws[k].2.length := by
  rw [List.take_succ_eq_append_getElem h, dWaits_snoc]
theorem dAll_take {ws : List (Nat × List UInt8)} {l : List UInt8} {k : Nat} (h : k < ws.length) : dAll l (ws.take (k + 1)) = splice (dAll l (ws.take k)) ws[k].1 ws[k].2 := by
  rw [List.take_succ_eq_append_getElem h, dAll_snoc]
/-- The last step of what is done: what was kept of the first ones is what is left. -/
def dKeep (keep : Int) : List (Nat × List UInt8) → Int
  | [] => keep
  | x :: ws => dKeep (keep - (max 0 (min keep x.2.length))) ws
theorem dKeep_snoc : ∀ (ws : List (Nat × List UInt8)) (keep : Int) (x : Nat × List UInt8), dKeep keep (ws ++ [x]) = dKeep keep ws - max 0 (min (dKeep keep ws) x.2.length)
  | [], keep, x => rfl
  | y :: ws, keep, x => dKeep_snoc ws _ x
theorem dDone_snoc : ∀ (ws : List (Nat × List UInt8)) (l : List UInt8) (keep : Int) (x : Nat × List UInt8), dDone l keep (ws ++ [x]) = splice (dDone l keep ws) x.1 (x.2.take (min (dKeep keep ws) x.2.length).toNat)
  | [], l, keep, x => rfl
  | y :: ws, l, keep, x => dDone_snoc ws _ _ x
theorem dKeep_take {ws : List (Nat × List UInt8)} {keep : Int} {k : Nat} (h : k < ws.length) : dKeep keep (ws.take (k + 1)) = dKeep keep (ws.take k) - max 0 (min (dKeep keep (ws.take k)) ws[k].2.length) := by
  rw [List.take_succ_eq_append_getElem h, dKeep_snoc]
theorem dDone_take {ws : List (Nat × List UInt8)} {l : List UInt8} {keep : Int} {k : Nat} (h : k < ws.length) :
    dDone l keep (ws.take (k + 1)) = splice (dDone l keep (ws.take k)) ws[k].1 (ws[k].2.take (min (dKeep keep (ws.take k)) ws[k].2.length).toNat) := by
  rw [List.take_succ_eq_append_getElem h, dDone_snoc]

end Go.Proofs.Ytmfbbonppmhabaa

namespace Go.Proofs.Ytmfbbonppmhabaa
set_option linter.unusedVariables false
set_option linter.unusedSimpArgs false
open Go.RowKit

/-- One write that waits, as it lies. -/
structure WR where
  at_ : Nat
  a : Option Addr
  n : Nat
  c : Nat
def WR.v (x : WR) : Value := .slice x.a x.n x.c
def eW : Elt WR := { T := 55, E := 95, s := 2, byt := 32, z := .agg #[.int .i64 0, .slice none 0 0], enc := fun x => [.int .i64 x.at_, .slice x.a x.n x.c] }
theorem eWok : eW.Ok := ⟨fun _ => rfl, fun x u hu => by simp [eW] at hu; rcases hu with rfl | rfl <;> rfl, by decide, by kernel_rfl, by kernel_rfl, by rfl⟩

structure DiskIn (w : World) (B : Nat) (F : Nat → Prop) (g : Nat) (d : DSt) (gl : Nat) (vw : Value) (ws : List WR) : Prop where
  blk : w.heap[g]? = some (.cells #[.slice (some ⟨gl, 0, none⟩) d.lasts.length d.lasts.length, vw, .int .i64 (d.syncs : Int)] 62 (0, 0))
  las : w.heap[gl]? = some (.cells (d.lasts.map bv).toArray 5 (0, 0))
  wts : OwnG eW w B vw ws
  len : ws.length = d.waits.length
  each : ∀ k (h : k < ws.length) (h' : k < d.waits.length), ws[k].at_ = d.waits[k].1 ∧ Own w B ws[k].v d.waits[k].2 ∧ (∀ b, ws[k].v.ownBlock = some b → F b ∧ b ≠ g ∧ b ≠ gl ∧ vw.ownBlock ≠ some b)
  fit : ∀ x ∈ d.waits, x.1 + x.2.length ≤ d.lasts.length
  big : 1 ≤ d.lasts.length ∧ d.lasts.length ≤ 65536
  ne : g ≠ gl ∧ vw.ownBlock ≠ some g ∧ vw.ownBlock ≠ some gl
  foot : F g ∧ F gl ∧ (∀ b, vw.ownBlock = some b → F b)
  low : ∀ b, F b → B ≤ b ∧ b < w.heap.size
/-- The disk `d` behind the pointer `p`; all of it lies in the blocks of `F`. -/
def IsDisk (w : World) (B : Nat) (F : Nat → Prop) (p : Value) (d : DSt) : Prop := ∃ g gl vw ws, p = .pointer (some ⟨g, 0, none⟩) ∧ DiskIn w B F g d gl vw ws

theorem DiskIn.touch {w w' : World} {B : Nat} {F M : Nat → Prop} {g : Nat} {d : DSt} {gl : Nat} {vw : Value} {ws : List WR} (h : DiskIn w B F g d gl vw ws) (ht : Touch M w w') (hM : ∀ b, F b → ¬ M b) : DiskIn w' B F g d gl vw ws where
  blk := by rw [ht.block g (h.low _ h.foot.1).2 (hM _ h.foot.1)]; exact h.blk
  las := by rw [ht.block gl (h.low _ h.foot.2.1).2 (hM _ h.foot.2.1)]; exact h.las
  wts := h.wts.touch ht (fun b hb => hM b (h.foot.2.2 b hb))
  len := h.len
  each := fun k h1 h2 => by
    obtain ⟨e1, e2, e3⟩ := h.each k h1 h2
    exact ⟨e1, e2.touch ht (fun b hb => hM b (e3 b hb).1), e3⟩
  fit := h.fit
  big := h.big
  ne := h.ne
  foot := h.foot
  low := fun b hb => ⟨(h.low b hb).1, Nat.lt_of_lt_of_le (h.low b hb).2 ht.size⟩
theorem IsDisk.touch {w w' : World} {B : Nat} {F M : Nat → Prop} {p : Value} {d : DSt} (h : IsDisk w B F p d) (ht : Touch M w w') (hM : ∀ b, F b → ¬ M b) : IsDisk w' B F p d := by
  obtain ⟨g, gl, vw, ws, e, h⟩ := h
  exact ⟨g, gl, vw, ws, e, h.touch ht hM⟩
theorem IsDisk.below {w w' : World} {B : Nat} {F : Nat → Prop} {p : Value} {d : DSt} (h : IsDisk w B F p d) (hb : Below w.heap.size w w') : IsDisk w' B F p d :=
  h.touch (M := fun _ => False) (Touch.ofBelow hb) (fun _ _ h => h)

theorem own_whole {w : World} {B g n : Nat} {l : List UInt8} (h : Own w B (.slice (some ⟨g, 0, none⟩) n n) l) : w.heap[g]? = some (.cells (l.map bv).toArray 5 (0, 0)) ∧ l.length = n := by
  obtain ⟨_, h⟩ := h
  rcases h with ⟨h0, _⟩ | ⟨g', cap, cur, e, hB, hg, h1, h2, h3, h4⟩
  · cases h0
  · cases e
    refine ⟨?_, rfl⟩
    rw [Nat.mul_one] at h3
    rw [Nat.mul_one, List.take_of_length_le (by simp [h3])] at h4
    rw [hg, ← h4, Array.toArray_toList]
theorem cells3 {w : World} {g : Nat} {x y z : Value} {T : TypeId} (h : w.heap[g]? = some (.cells #[x, y, z] T (0, 0))) :
    w.cell? ⟨g, 0, none⟩ = some x ∧ w.cell? ⟨g, 1, none⟩ = some y ∧ w.cell? ⟨g, 2, none⟩ = some z ∧ ∀ j, w.frozen? ⟨g, j, none⟩ = false :=
  ⟨cell_of_row w g 0 _ _ _ h, cell_of_row w g 1 _ _ _ h, cell_of_row w g 2 _ _ _ h, fun j => frozen_of_row w g j _ _ h⟩

set_option maxRecDepth 10000 in
theorem clone_any (a : Option Addr) (l : List UInt8) (n cap : Nat) (w : World) (hn : l.length = n) (hm : n ≤ 140737488355328) (hnil : a = none → cap = 0) (hA : At w a l) :
    Calls Try.prog 34 #[.slice a n cap] w fun e w' => ∃ v, e = .returned v ∧ Own w' w.heap.size v l ∧ Below w.heap.size w w' := by
  have HA := hid hA
  have HN := hid hn
  cases a with
  | none =>
    have hc := hnil rfl
    subst hc
    have hl : l = [] := by
      cases l with
      | nil => rfl
      | cons c l => have := (hA 0 (by simp)).1; cases this
    subst hl
    have hn0 : n = 0 := by rw [← hn]; rfl
    subst hn0
    clear hA hn
    have hq := fun (wx : World) (m c : Nat) => Lib.run_eql_slice_nil (P := Try.prog) wx 27 5 none m c 0 0 sliceB
    go_enter Try.func34, Try.ntmps34
    go_wp2
    go_ret
    exact ⟨_, rfl, Own.nil _ _, Below.refl _ _⟩
  | some x =>
    clear hA hn
    have HX : Hid (#[].toList = ([] : List UInt8).map bv) := rfl
    have hq := fun (wx : World) (m c : Nat) => Lib.run_eql_slice_nil (P := Try.prog) wx 27 5 (some x) m c 0 0 sliceB
    go_enter Try.func34, Try.ntmps34
    go_wp2_with (at_builtin; refine wpList_app (by rfl) (.tmp 5) (.tmp 6) 27 27 27 rfl rfl _ _ rfl rfl (run_app1 _ w.heap.size _ [] (own_new w w.heap.size [] _ 0 rfl HX.out (by unfold maxLen; simp) (Nat.le_refl _)) (some x) l _ cap HN.out (by exact HA.out.all ((Below.refl _ _).alloc (Nat.le_refl _) _)) (by simp; omega) (by simp)) ?_; rintro v2 w2 ⟨hown2, hb2⟩; have HO2 := hid hown2; have HB2 := hid hb2; clear hown2 hb2)
    go_ret
    exact ⟨_, rfl, by simpa using HO2.out, ((Below.refl _ _).alloc (Nat.le_refl _) _).trans HB2.out⟩

theorem new_no (n : Int) (h : n < 1 ∨ 65536 < n) (w : World) : Calls Try.prog 8 #[.int .i64 n] w fun e w' => e = .returned (.pointer none) ∧ w' = w := by
  by_cases h0 : n < 1
  · have g0 : decide (n < 1) = true := by simp; omega
    go_enter Try.func8, Try.ntmps8
    go_wp2
    go_ret
    exact ⟨rfl, rfl⟩
  · have g0 : decide (n < 1) = false := by simp; omega
    have g1 : decide (65536 < n) = true := by simp; omega
    go_enter Try.func8, Try.ntmps8
    go_wp2
    go_ret
    exact ⟨rfl, rfl⟩

theorem new_yes (n : Nat) (h1 : 1 ≤ n) (h2 : n ≤ 65536) (w : World) :
    Calls Try.prog 8 #[.int .i64 n] w fun e w' => ∃ p F, e = .returned p ∧ IsDisk w' w.heap.size F p (DSt.new n) ∧ Below w.heap.size w w' := by
  have g0 : decide ((n : Int) < 1) = false := by simp; omega
  have g1 : decide ((65536 : Int) < n) = false := by simp; omega
  go_enter Try.func8, Try.ntmps8
  go_wp2_with (at_make; refine wpList_make (by rfl) (.tmp 9) (.tmp 9) 27 rfl _ _ rfl rfl (run_make _ n (by omega)) ?_; rintro v2 w2 ⟨rfl, hown2, hb2⟩; have HO2 := hid hown2; have HB2 := hid hb2; clear hown2 hb2)
  go_ret
  have hlt := (own_lt ((ownB _ _ _ _).2 HO2.out) w.heap.size rfl).2
  have hb3 : Below w2.heap.size w2 (w2.alloc (.cells #[.slice (some ⟨w.heap.size, 0, none⟩) n n, .slice none 0 0, .int .i64 0] 62)) := (Below.refl _ _).alloc (Nat.le_refl _) _
  refine ⟨_, fun b => b = w.heap.size ∨ b = w2.heap.size, rfl, ⟨w2.heap.size, w.heap.size, .slice none 0 0, [], rfl, ?_⟩, HB2.out.trans (hb3.mono HB2.out.size)⟩
  have hw := own_whole (HO2.out.stay hb3)
  refine ⟨?_, by simpa [DSt.new] using hw.1, OwnG.nil _ _, rfl, fun k h => by simp at h, fun x hx => by simp [DSt.new] at hx, by simp [DSt.new]; omega, ⟨by omega, by simp [Value.ownBlock], by simp [Value.ownBlock]⟩, ⟨.inr rfl, .inl rfl, fun b hb => by simp [Value.ownBlock] at hb⟩, ?_⟩
  · have := heap_alloc_new w2 (.cells #[.slice (some ⟨w.heap.size, 0, none⟩) n n, .slice none 0 0, .int .i64 0] 62)
    simpa [DSt.new] using this
  · rintro b (rfl | rfl) <;> simp <;> omega

theorem size_any {w : World} {B : Nat} {F : Nat → Prop} {p : Value} {d : DSt} (h : IsDisk w B F p d) :
    Calls Try.prog 29 #[p] w fun e w' => e = .returned (.int .i64 (d.lasts.length : Int)) ∧ w' = w := by
  obtain ⟨g, gl, vw, ws, rfl, h⟩ := h
  obtain ⟨c0, c1, c2, cf⟩ := cells3 h.blk
  clear h
  generalize d.lasts.length = n at *
  go_enter Try.func29, Try.ntmps29
  go_wp2
  go_ret
  exact ⟨rfl, rfl⟩

theorem add_any {w : World} {g : Nat} {x : Nat} (h : w.cell? ⟨g, 2, none⟩ = some (.int .i64 x)) (hf : w.frozen? ⟨g, 2, none⟩ = false) (hx : x < 9223372036854775807) :
    Calls Try.prog 63 #[.pointer (some ⟨g, 2, none⟩), .int .i64 1] w fun e w' => e = .returned (.int .i64 ((x + 1 : Nat) : Int)) ∧ w' = w.setCell ⟨g, 2, none⟩ (.int .i64 ((x + 1 : Nat) : Int)) := by
  have hl := run_call_add (P := Try.prog) Try.func78 (by kernel_rfl) (by kernel_rfl) (by kernel_rfl) .i64 (by kernel_rfl) (y := 1) (s := ((x + 1 : Nat) : Int)) h hf (by
    have : IntKind.i64.wrap ((x : Int) + 1) = ((x + 1 : Nat) : Int) := by rw [IntKind.wrap_i64]; omega
    simp [go_sem, this])
  go_enter Try.func63, Try.ntmps63
  go_wp2
  go_ret
  exact ⟨rfl, rfl⟩

theorem errno_case (d : DSt) (a : Int) (n : Nat) : d.can a n = if a < 0 then 1 else if (n : Int) > d.lasts.length ∨ a > (d.lasts.length : Int) - n then 3 else 0 := rfl

set_option maxRecDepth 10000 in
theorem write_no {w : World} {B : Nat} {F : Nat → Prop} {p : Value} {d : DSt} (h : IsDisk w B F p d) (at_ : Int) (a : Option Addr) (n cap : Nat) (hc : d.can at_ n ≠ 0) (hn : n ≤ 140737488355328) :
    Calls Try.prog 69 #[p, .int .i64 at_, .slice a n cap] w fun e w' => e = .returned (.int .i64 (d.can at_ n)) ∧ w' = w := by
  obtain ⟨g, gl, vw, ws, rfl, h⟩ := h
  obtain ⟨c0, c1, c2, cf⟩ := cells3 h.blk
  have hbig := h.big
  clear h
  unfold DSt.can at *
  generalize d.lasts.length = m at *
  by_cases h0 : at_ < 0
  · have H := hid (show (if at_ < 0 then (1 : Int) else if (n : Int) > m ∨ at_ > (m : Int) - n then 3 else 0) = 1 by rw [if_pos h0])
    have g0 : decide (at_ < 0) = true := by simp; omega
    clear hc
    go_enter Try.func69, Try.ntmps69
    go_wp2
    go_ret
    exact ⟨rfl, rfl⟩
  have g0 : decide (at_ < 0) = false := by simp; omega
  by_cases h1 : m < n
  · have H := hid (show (if at_ < 0 then (1 : Int) else if (n : Int) > m ∨ at_ > (m : Int) - n then 3 else 0) = 3 by rw [if_neg h0, if_pos (.inl (by omega))])
    have g1 : decide (m < n) = true := by simp; omega
    clear hc
    go_enter Try.func69, Try.ntmps69
    go_wp2
    go_ret
    exact ⟨rfl, rfl⟩
  have g1 : decide (m < n) = false := by simp; omega
  by_cases h2 : (m : Int) - n < at_
  · have H := hid (show (if at_ < 0 then (1 : Int) else if (n : Int) > m ∨ at_ > (m : Int) - n then 3 else 0) = 3 by rw [if_neg h0, if_pos (.inr (by omega))])
    have g2 : decide ((m : Int) - n < at_) = true := by simp; omega
    clear hc
    go_enter Try.func69, Try.ntmps69
    go_wp2
    go_ret
    exact ⟨rfl, rfl⟩
  · exfalso; apply hc; rw [if_neg h0, if_neg (by omega)]

theorem heap_set3 {w : World} {g : Nat} {x y z : Value} {T : TypeId} (h : w.heap[g]? = some (.cells #[x, y, z] T (0, 0))) (u : Value) :
    (w.setCell ⟨g, 0, none⟩ u).heap[g]? = some (.cells #[u, y, z] T (0, 0)) ∧ (w.setCell ⟨g, 1, none⟩ u).heap[g]? = some (.cells #[x, u, z] T (0, 0)) ∧ (w.setCell ⟨g, 2, none⟩ u).heap[g]? = some (.cells #[x, y, u] T (0, 0)) :=
  ⟨heap_setCell_same w g 0 _ _ u h, heap_setCell_same w g 1 _ _ u h, heap_setCell_same w g 2 _ _ u h⟩

theorem write_fin {w w1 w2 : World} {B : Nat} {F : Nat → Prop} {g : Nat} {d : DSt} {gl : Nat} {vw v2 : Value} {ws : List WR} {at_ n1 k1 : Nat} {a1 : Option Addr} {l : List UInt8} (H : DiskIn w B F g d gl vw ws) (hb : Below w.heap.size w w1)
    (ho : Own w1 w.heap.size (.slice a1 n1 k1) l) (hp : Apped eW w1 w2 B vw v2 (ws ++ [⟨at_, a1, n1, k1⟩])) (hm : at_ + l.length ≤ d.lasts.length) :
    ∃ F', IsDisk (w2.setCell ⟨g, 1, none⟩ v2) B F' (.pointer (some ⟨g, 0, none⟩)) { d with waits := d.waits ++ [(at_, l)] } ∧ Touch F w (w2.setCell ⟨g, 1, none⟩ v2) ∧ ∀ b, F' b → F b ∨ w.heap.size ≤ b := by
  have hg := (H.low _ H.foot.1).2
  have hgl := (H.low _ H.foot.2.1).2
  have hs1 := hb.size
  have hs2 := hp.below.size
  have hBw : B ≤ w.heap.size := by have := H.low _ H.foot.1; omega
  have hvg : v2.ownBlock ≠ some g := by
    intro e
    rcases hp.blk g e with h | h
    · exact H.ne.2.1 h
    · omega
  have k1g : w2.heap[g]? = w.heap[g]? := (hp.keep g (by omega) H.ne.2.1).trans (hb.block g hg)
  have k1l : w2.heap[gl]? = w.heap[gl]? := (hp.keep gl (by omega) H.ne.2.2).trans (hb.block gl hgl)
  have hset : Touch (fun b => b = g) w2 (w2.setCell ⟨g, 1, none⟩ v2) := (Touch.refl (fun b => b = g) w2).setCell (p := ⟨g, 1, none⟩) (.inl rfl) v2
  have ht : Touch F w (w2.setCell ⟨g, 1, none⟩ v2) :=
    ((Touch.ofBelow hb).trans hp.touch (fun x hx => .inl (H.foot.2.2 x hx))).setCell (.inl H.foot.1) v2
  refine ⟨fun b => F b ∨ (w.heap.size ≤ b ∧ b < w2.heap.size), ⟨g, gl, v2, ws ++ [⟨at_, a1, n1, k1⟩], rfl, ?_⟩, ht, fun b hb => by rcases hb with h | h; exact .inl h; exact .inr h.1⟩
  refine ⟨(heap_set3 (k1g.trans H.blk) v2).2.1, ?_, hp.own.touch hset (fun b hb e => by subst e; exact hvg hb), by simp [H.len], ?_, ?_, H.big, ⟨H.ne.1, hvg, ?_⟩, ⟨.inl H.foot.1, .inl H.foot.2.1, ?_⟩, ?_⟩
  · rw [heap_setCell_other _ _ _ _ (Ne.symm H.ne.1)]; exact k1l.trans H.las
  · intro k hk hk'
    by_cases hlt : k < ws.length
    · have hlt' : k < d.waits.length := by rw [← H.len]; exact hlt
      obtain ⟨e1, e2, e3⟩ := H.each k hlt hlt'
      rw [List.getElem_append_left hlt, List.getElem_append_left hlt']
      have e4 := (((ownB _ _ _ _).2 e2).stay hb).touch hp.touch (fun b hb => (e3 b hb).2.2.2)
      refine ⟨e1, (ownB _ _ _ _).1 (e4.touch hset (fun b hb => (e3 b hb).2.1)), fun b hb => ⟨.inl (e3 b hb).1, (e3 b hb).2.1, (e3 b hb).2.2.1, fun e => ?_⟩⟩
      rcases hp.blk b e with h | h
      · exact (e3 b hb).2.2.2 h
      · have := (H.low _ (e3 b hb).1).2; omega
    · have ek : k = ws.length := by simp at hk; omega
      subst ek
      have ek2 : ws.length = d.waits.length := H.len
      rw [List.getElem_append_right (Nat.le_refl _), List.getElem_append_right (by omega)]
      simp only [ek2, Nat.sub_self, List.getElem_cons_zero]
      have hlt := own_lt ((ownB _ _ _ _).2 ho)
      have hne : ∀ b, (Value.slice a1 n1 k1).ownBlock = some b → vw.ownBlock ≠ some b := fun b hb e => by
        have h1 := (hlt b hb).1
        have h2 := (H.low _ (H.foot.2.2 b e)).2
        omega
      refine ⟨trivial, (ownB _ _ _ _).1 (((((ownB _ _ _ _).2 ho).base hBw).touch hp.touch hne).touch hset (fun b hb e => ?_)), fun b hb => ?_⟩
      · have := (hlt b hb).1; omega
      · have h1 := hlt b hb
        refine ⟨.inr ⟨h1.1, by omega⟩, by omega, by omega, fun e => ?_⟩
        rcases hp.blk b e with h | h
        · exact hne b hb h
        · omega
  · intro x hx
    rcases List.mem_append.1 hx with h | h
    · exact H.fit x h
    · simp at h; subst h; exact hm
  · intro e
    rcases hp.blk gl e with h | h
    · exact H.ne.2.2 h
    · omega
  · intro b e
    rcases hp.blk b e with h | h
    · exact .inl (H.foot.2.2 b h)
    · exact .inr ⟨by omega, (own_lt hp.own b e).2⟩
  · rintro b (h | h)
    · have := H.low b h
      exact ⟨this.1, by simp; omega⟩
    · exact ⟨by omega, by simp; omega⟩

end Go.Proofs.Ytmfbbonppmhabaa

namespace Go.Proofs.Ytmfbbonppmhabaa
set_option linter.unusedVariables false
set_option linter.unusedSimpArgs false
open Go.RowKit

set_option maxRecDepth 10000 in
set_option maxHeartbeats 1600000 in
theorem write_yes {w : World} {B : Nat} {F : Nat → Prop} {p : Value} {d : DSt} (h : IsDisk w B F p d) (at_ : Nat) (a : Option Addr) (l : List UInt8) (n cap : Nat) (hn : l.length = n) (hm : at_ + n ≤ d.lasts.length)
    (hw : d.waits.length ≤ 1000000) (hnil : a = none → cap = 0) (hA : At w a l) :
    Calls Try.prog 69 #[p, .int .i64 (at_ : Int), .slice a n cap] w fun e w' => e = .returned (.int .i64 0) ∧
      ∃ F', IsDisk w' B F' p { d with waits := d.waits ++ [(at_, l)] } ∧ Touch F w w' ∧ ∀ b, F' b → F b ∨ w.heap.size ≤ b := by
  obtain ⟨g, gl, vw, ws, rfl, h⟩ := h
  obtain ⟨c0, c1, c2, cf⟩ := cells3 h.blk
  have hbig := h.big
  have hwl := h.len
  have H := hid h
  have HA := hid hA
  have HN := hid hn
  have HNil := hid hnil
  have hm0 := hid hm
  have hnm : n ≤ d.lasts.length := by omega
  have g0 : decide ((at_ : Int) < 0) = false := decide_eq_false (by omega)
  have g1 : decide (d.lasts.length < n) = false := decide_eq_false (by omega)
  have g2 : decide ((d.lasts.length : Int) - n < at_) = false := decide_eq_false (by omega)
  have hsize : g < w.heap.size := (h.low _ h.foot.1).2
  have hne1 : vw.ownBlock ≠ some g := h.ne.2.1
  have hB : B ≤ w.heap.size := by have := h.low _ h.foot.1; omega
  clear h hA hn hnil hm
  have HL : Hid ((ws.length + 1) * eW.byt ≤ 140737488355328) := by rw [Hid, hwl]; show (d.waits.length + 1) * 32 ≤ _; omega
  have HL2 : Hid (ws.length + 1 ≤ maxLen) := by rw [Hid, hwl]; unfold maxLen; omega
  clear hwl
  generalize hmm : d.lasts.length = m at *
  have HM := hid hmm
  clear hmm
  have hce := fun w => run_enter (f := 34) Try.func34 (by kernel_rfl) rfl #[.slice a n cap] w
  go_enter Try.func69, Try.ntmps69
  go_wp2_with fail
  go_region_law (first
    | (refine step_call1 rfl 34 (.tmp 41) 27 rfl _ rfl hce (clone_any a l n cap _ (by exact HN.out) (by omega) (by exact HNil.out) (by exact HA.out)) ?_
       rintro v1 w1 ⟨hown1, hb1⟩
       have c1' : w1.cell? ⟨g, 1, none⟩ = some vw := by rw [hb1.cell hsize]; exact c1
       have c1a : ∀ o : Obj, (w1.alloc o).cell? ⟨g, 1, none⟩ = some vw := fun o => (World.cell?_of_block (w := w1) (a := ⟨g, 1, none⟩) (Below.heap_alloc _ _ _ (Nat.lt_of_lt_of_le hsize hb1.size))).trans c1'
       have HF1 := hid ((hb1.frozen (p := ⟨g, 1, none⟩) hsize).trans (cf 1))
       have hsz1 : w.heap.size ≤ w1.heap.size := hb1.size
       obtain ⟨a1, k1, rfl, hk1, hk1m, hk1n, hat1, hab1⟩ := ((ownB _ _ _ _).2 hown1).at eBok
       have HO1 := hid hown1
       have HB1 := hid hb1
       have HAB := hid hab1
       clear hown1 hb1 hat1 hab1 hk1 hk1m hk1n)
    | (refine step_app (by rfl) (.tmp 39) (.tmp 44) 55 55 55 rfl rfl _ _ rfl rfl (runG_full1 eWok w1 w1.heap.size rfl B vw ws (by exact H.out.wts.stay (undrew HB1.out)) ⟨at_, a1, l.length, k1⟩ _ rfl (by exact HL.out) (by exact HL2.out) (by omega)) ?_
       rintro v2 w2 hap
       have hk2 := hap.keep g (by omega) hne1
       have c2' : w2.cell? ⟨g, 1, none⟩ = some vw := (World.cell?_of_block (w := w1) (a := ⟨g, 1, none⟩) hk2).trans c1'
       have f2' : w2.frozen? ⟨g, 1, none⟩ = false := (World.frozen?_of_block (w := w1) (a := ⟨g, 1, none⟩) hk2).trans HF1.out
       obtain ⟨a2, n2, k2, rfl⟩ : ∃ a2 n2 k2, v2 = .slice a2 n2 k2 := by obtain ⟨a2, k2, e, _⟩ := hap.own.at eWok; exact ⟨a2, _, k2, e⟩
       have HP := hid hap
       clear hap hk2)
    | fail)
  all_goals (
    go_wp2
    go_ret
    exact ⟨rfl, write_fin H.out (undrew HB1.out) HO1.out HP.out (by rw [HM.out, HN.out]; exact hm0.out)⟩)

end Go.Proofs.Ytmfbbonppmhabaa

namespace Go.Proofs.Ytmfbbonppmhabaa
set_option linter.unusedVariables false
set_option linter.unusedSimpArgs false
open Go.RowKit

theorem idxW (a : Option Addr) (n cap : Nat) (hn : 0 < n → a.isSome = true) (k : Nat) (i : Int) (hi : i = (k : Int)) (hk : k < n) (wx : World) :
    (Instr.indexAt 55 (.slice a n cap) (.int .i64 i)).run Try.prog wx = .ok (.pointer (some (adr a (k * 2)))) wx := idxG eWok a n cap hn k i hi hk wx
theorem AtG.cellW {w : World} {a : Option Addr} {l : List WR} (h : AtG eW w a l) {k : Nat} (hk : k < l.length) :
    w.cell? (adr a (k * 2)) = some (.int .i64 l[k].at_) ∧ w.cell? (adr a (k * 2 + 1)) = some (.slice l[k].a l[k].n l[k].c) :=
  ⟨(h k hk).2 0 (by decide), (h k hk).2 1 (by decide)⟩
theorem adr_two (a : Option Addr) (k j : Nat) : (adr a k).add j = adr a (k + j) := by
  unfold adr Addr.add
  by_cases hi : k = 0 <;> by_cases hj : j = 0 <;> simp [hi, hj, Nat.add_assoc]
theorem AtG.cellW' {w : World} {a : Option Addr} {l : List WR} (h : AtG eW w a l) {k : Nat} (hk : k < l.length) :
    w.cell? (adr a (k * 2)) = some (.int .i64 l[k].at_) ∧ w.cell? { block := (adr a (k * 2)).block, off := (adr a (k * 2)).off + 1 } = some (.slice l[k].a l[k].n l[k].c) := by
  have := h.cellW hk
  rw [← adr_two] at this; exact this
theorem dWaits_le {ws : List (Nat × List UInt8)} {m : Nat} (h : ∀ x ∈ ws, x.1 + x.2.length ≤ m) : dWaits ws ≤ ws.length * m := by
  induction ws with
  | nil => simp [dWaits]
  | cons x ws ih =>
    have h1 := ih (fun y hy => h y (by simp [hy]))
    have h2 := h x (by simp)
    rw [dWaits, List.length_cons, Nat.add_mul]; omega

/-- One waiting write, as its cells say. -/
theorem DiskIn.wr {w : World} {B : Nat} {F : Nat → Prop} {g : Nat} {d : DSt} {gl : Nat} {vw : Value} {ws : List WR} (h : DiskIn w B F g d gl vw ws) {k : Nat} (hk : k < ws.length) (hk' : k < d.waits.length) :
    ws[k].at_ = d.waits[k].1 ∧ ws[k].n = d.waits[k].2.length ∧ ws[k].n ≤ ws[k].c ∧ ws[k].c ≤ maxLen ∧ At w ws[k].a d.waits[k].2 ∧ d.waits[k].1 + d.waits[k].2.length ≤ d.lasts.length ∧ (∀ x, ws[k].a = some x → F x.block ∧ x.block ≠ g ∧ x.block ≠ gl ∧ vw.ownBlock ≠ some x.block) := by
  obtain ⟨e1, e2, e3⟩ := h.each k hk hk'
  obtain ⟨a, c, e, h1, h2, h3, h4, h5⟩ := OwnG.at eBok ((ownB _ _ _ _).2 e2)
  unfold WR.v at e
  cases hx : ws[k] with
  | mk at_ a' n' c' =>
    rw [hx] at e e1 e2 e3
    cases e
    refine ⟨e1, rfl, h1, h2, (atB _ _ _).1 h4, h.fit _ (List.getElem_mem _), ?_⟩
    rintro x rfl
    exact e3 x.block rfl

set_option maxRecDepth 10000 in
theorem waits_any {w : World} {B : Nat} {F : Nat → Prop} {p : Value} {d : DSt} (h : IsDisk w B F p d) (hw : d.waits.length ≤ 1000000) :
    Calls Try.prog 28 #[p] w fun e w' => e = .returned (.int .i64 (dWaits d.waits : Int)) ∧ Below w.heap.size w w' := by
  obtain ⟨g, gl, vw, ws, rfl, h⟩ := h
  obtain ⟨c0, c1, c2, cf⟩ := cells3 h.blk
  obtain ⟨av, cv, rfl, hcv, hcm, hnil, hat, hbl⟩ := h.wts.at eWok
  have HAT := hid hat
  have H := hid h
  have HLen := hid h.len
  have hbig := h.big.2
  have i0 := fun k i hi hk => idxW av ws.length cv hat.ok k i hi hk
  have hw' : ws.length ≤ 1000000 := by rw [h.len]; exact hw
  clear h hat hnil hbl hw
  generalize hn : ws.length = n at *
  have HNw := hid hn
  clear hn
  go_enter Try.func28, Try.ntmps28
  go_wp2_with fail
  go_loopw [3, 13] (fun s q wr => ∃ k : Nat, k ≤ n ∧ s = .int .i64 (dWaits (d.waits.take k) : Int) ∧ q = .int .i64 k ∧ Below w.heap.size w wr) (fun _ q _ => n - (intOf q).toNat)
  case atStart => exact ⟨0, Nat.zero_le _, rfl, rfl, Below.refl _ _⟩
  case round =>
    obtain ⟨k, hk, rfl, rfl, hbel⟩ := hrel
    have HB := hid hbel
    have hsz := hbel.size
    clear hbel
    by_cases hlt : k < n
    · have hkw : k < ws.length := by rw [HNw.out]; exact hlt
      have hkd : k < d.waits.length := by rw [← HLen.out]; exact hlt
      have i1 := i0 k k rfl hlt
      obtain ⟨x0, x1⟩ := (AtG.all eWok HAT.out HB.out).cellW' hkw
      obtain ⟨e1, e2, e3, e4, e5, e6, e7⟩ := H.out.wr hkw hkd
      have HT := hid (dWaits_take hkd)
      have hl1 : dWaits (d.waits.take k) ≤ 1000000 * 65536 := by
        refine Nat.le_trans (dWaits_le (m := 65536) (fun x hx => Nat.le_trans (H.out.fit x (List.mem_of_mem_take hx)) hbig)) (Nat.mul_le_mul_right _ ?_)
        rw [List.length_take]; omega
      rw [← e2] at HT
      have hl2 : ws[k].n ≤ 65536 := by omega
      clear i0 e1 e2 e3 e4 e5 e6 e7
      generalize ws[k] = x at *
      generalize dWaits (d.waits.take k) = s at *
      generalize adr av (k * 2) = A at *
      go_wp2
      go_roundw
      case rel => exact ⟨k + 1, by omega, by rw [HT.out]; go_num, by go_num, (HB.out.alloc hsz _)⟩
      case measure => simp [intOf]; omega
    · have ek : k = n := by omega
      have HR : Hid (dWaits d.waits = dWaits (d.waits.take k)) := by rw [Hid, ek, HLen.out, List.take_length]
      clear ek
      go_wp2
      go_ret
      exact ⟨by rw [HR.out]; rfl, HB.out⟩

theorem Own.row {w : World} {B : Nat} {v : Value} {l : List UInt8} (h : Own w B v l) (hl : 0 < l.length) :
    ∃ g cap sp, v = .slice (some ⟨g, 0, none⟩) l.length cap ∧ B ≤ g ∧ cap = l.length + sp.length ∧ cap ≤ maxLen ∧ w.heap[g]? = some (.cells (l.map bv ++ sp).toArray 5 (0, 0)) := by
  obtain ⟨_, h⟩ := h
  rcases h with ⟨rfl, h0⟩ | ⟨g, cap, cur, rfl, hB, hg, h1, h2, h3, h4⟩
  · omega
  · refine ⟨g, cap, cur.toList.drop l.length, rfl, hB, ?_, h2, ?_⟩
    · have : (cur.toList.drop l.length).length = cur.size - l.length := by simp
      omega
    · rw [Nat.mul_one] at h4
      rw [hg, ← h4, List.take_append_drop, Array.toArray_toList]
theorem own_of_row {w : World} {B g cap : Nat} {l : List UInt8} {sp : List Value} (hB : B ≤ g) (hc : cap = l.length + sp.length) (hm : cap ≤ maxLen) (hg : w.heap[g]? = some (.cells (l.map bv ++ sp).toArray 5 (0, 0))) :
    Own w B (.slice (some ⟨g, 0, none⟩) l.length cap) l := by
  refine ⟨by simp, .inr ⟨g, cap, _, rfl, hB, hg, by omega, hm, by simp; omega, ?_⟩⟩
  simp
theorem splice_map {l b : List UInt8} {sp : List Value} {k : Nat} (h : k + b.length ≤ l.length) : splice (l.map bv ++ sp) k (b.map bv) = (splice l k b).map bv ++ sp := by
  unfold splice
  rw [List.take_append_of_le_length (by simp; omega), List.drop_append_of_le_length (by simp; omega)]
  simp
theorem cut_at {g lo cap : Nat} (h : lo < cap) : cutH (some ⟨g, 0, none⟩) lo cap = some ⟨g, lo, none⟩ := by
  unfold cutH
  rw [if_neg (by omega), Nat.mul_one]
  simp [Addr.add_lit]
theorem At.src {w : World} {a : Option Addr} {b : List UInt8} (h : At w a b) (hp : 0 < b.length) : ∃ ad, a = some ad ∧ ∀ j v, (b.map bv)[j]? = some v → w.cell? (ad.add j) = some v := by
  obtain ⟨ad, rfl⟩ := Option.isSome_iff_exists.1 (h.ok hp)
  refine ⟨ad, rfl, fun j v hj => ?_⟩
  simp only [List.getElem?_map, Option.map_eq_some_iff] at hj
  obtain ⟨c, hc, rfl⟩ := hj
  obtain ⟨hk, rfl⟩ := List.getElem?_eq_some_iff.1 hc
  exact (h j hk).2

set_option maxRecDepth 10000 in
set_option maxHeartbeats 1600000 in
theorem dbytes_any {w : World} {B : Nat} {F : Nat → Prop} {p : Value} {d : DSt} (h : IsDisk w B F p d) (hw : d.waits.length ≤ 1000000) :
    Calls Try.prog 25 #[p] w fun e w' => ∃ v, e = .returned v ∧ Own w' w.heap.size v d.bytes ∧ Below w.heap.size w w' := by
  obtain ⟨g, gl, vw, ws, rfl, h⟩ := h
  obtain ⟨c0, c1, c2, cf⟩ := cells3 h.blk
  obtain ⟨av, cv, rfl, hcv, hcm, hnil, hat, hbl⟩ := h.wts.at eWok
  have HAT := hid hat
  have H := hid h
  have HLen := hid h.len
  have hbig := h.big
  have hg := (h.low _ h.foot.1).2
  have i0 := fun k i hi hk => idxW av ws.length cv hat.ok k i hi hk
  have hw' : ws.length ≤ 1000000 := by rw [h.len]; exact hw
  have HL : Hid (At w (some ⟨gl, 0, none⟩) d.lasts) := by
    have := (own_of_row (B := 0) (sp := []) (Nat.zero_le _) rfl (by unfold maxLen; simp; omega) (by rw [List.append_nil]; exact h.las) : Own w 0 _ d.lasts).sl
    obtain ⟨a, c, e, _, _, h4⟩ := this
    cases e; exact h4
  clear h hat hnil hbl hw
  generalize hn : ws.length = n at *
  have HNw := hid hn
  clear hn
  generalize hm : d.lasts.length = m at *
  have HM := hid hm
  clear hm
  go_enter Try.func25, Try.ntmps25
  go_wp2_with fail
  refine (clone_any _ d.lasts m m _ (by exact HM.out) (by omega) (by intro e; cases e) (by exact HL.out)).mono ?_
  rintro e w1 ⟨v1, rfl, hown1, hb1⟩
  obtain ⟨go, cap, sp, rfl, hgo, hcap, hcapm, hrow⟩ := hown1.row (by have := HM.out; omega)
  have HR := hid hrow
  have HB1 := hid hb1
  have HCap := hid hcap
  have c1' : w1.cell? ⟨g, 1, none⟩ = some (.slice av n cv) := by rw [hb1.cell hg]; exact c1
  have hlm : d.lasts.length = m := HM.out
  rw [hlm]
  rw [hlm] at hcap
  have HCp := hid hcap
  have hmc : m ≤ cap := by omega
  clear hown1 hb1 hrow hlm hcap
  go_wp2_with fail
  go_loopw [18] (fun q wr => ∃ k : Nat, k ≤ n ∧ q = .int .i64 k ∧ wr.heap[go]? = some (.cells ((dAll d.lasts (d.waits.take k)).map bv ++ sp).toArray 5 (0, 0)) ∧ Below w.heap.size w wr) (fun q _ => n - (intOf q).toNat)
  case atStart => exact ⟨0, Nat.zero_le _, rfl, HR.out, HB1.out⟩
  case round =>
    obtain ⟨k, hk, rfl, hrow, hbel⟩ := hrel
    have HB := hid hbel
    have HRo := hid hrow
    have hsz := hbel.size
    clear hbel hrow
    by_cases hlt : k < n
    · have hkw : k < ws.length := by rw [HNw.out]; exact hlt
      have hkd : k < d.waits.length := by rw [← HLen.out]; exact hlt
      have i1 := i0 k k rfl hlt
      obtain ⟨x0, x1⟩ := (AtG.all eWok HAT.out HB.out).cellW' hkw
      obtain ⟨e1, e2, e3, e4, e5, e6, e7⟩ := H.out.wr hkw hkd
      have HT := hid (dAll_take (l := d.lasts) hkd)
      have HE5 := hid (e5.all HB.out)
      have hdl := dAll_len (d.waits.take k) d.lasts (fun x hx => H.out.fit x (List.mem_of_mem_take hx))
      rw [HM.out] at hdl e6
      have hgolt : go < wr.heap.size := (Array.getElem?_eq_some_iff.1 HRo.out).1
      rw [← e1] at HT e6
      have hatm : ws[k].at_ ≤ m := by omega
      have HX : Hid (d.waits[k].2.length = ws[k].n ∧ ws[k].at_ + ws[k].n ≤ m) := ⟨e2.symm, by omega⟩
      clear i0 e1 e2 e3 e4 e5 e6 e7
      generalize ws[k] = x at *
      generalize d.waits[k].2 = b at *
      generalize dAll d.lasts (d.waits.take k) = o at *
      generalize adr av (k * 2) = A at *
      have HDL := hid hdl
      clear hdl
      have HG : Hid (∀ ob : Obj, (wr.alloc ob).heap[go]? = some (.cells (o.map bv ++ sp).toArray 5 (0, 0))) := fun ob => (Below.heap_alloc _ _ _ hgolt).trans HRo.out
      have HP : Hid (∀ ob : Obj, 0 < (b.map bv).length → cutH (some ⟨go, 0, none⟩) x.at_ cap = some ⟨go, x.at_, none⟩ ∧ ∃ ad, x.a = some ad ∧ ∀ j v, (b.map bv)[j]? = some v → (wr.alloc ob).cell? (ad.add j) = some v) := by
        intro ob hp
        rw [List.length_map] at hp
        have hx := HX.out
        exact ⟨cut_at (by omega), (HE5.out.all ((Below.refl _ _).alloc (Nat.le_refl _) ob)).src hp⟩
      have hN : Hid ((b.map bv).length = Nat.min x.n (m - x.at_)) := by
        have hx := HX.out
        rw [Hid, List.length_map, hx.1]; exact (Nat.min_eq_left (by omega)).symm
      have hF : Hid (x.at_ + (b.map bv).length ≤ (o.map bv ++ sp).length) := by
        have hx := HX.out
        have hd := HDL.out
        have hc := HCp.out
        rw [Hid, List.length_map, List.length_append, List.length_map]; omega
      have icut := cut_lI (some ⟨go, 0, none⟩) m cap x.at_ x.at_ rfl hatm (by omega)
      go_wp2_with fail
      go_region_law (refine step_copy_splice rfl (.tmp 25) (.tmp 27) 27 27 rfl 5 sliceB (by kernel_rfl) _ _ _ _ _ _ rfl rfl go x.at_ _ _ (by exact HG.out _) (b.map bv) hN.out (by exact HP.out _) hF.out (bv_one b) w.heap.size w (by exact (HB.out.alloc hsz _).drew) hgo ?_; intro w4 hg4 hb4; have HB4 := hid hb4; clear hb4)
      all_goals (
        go_wp2
        go_roundw
        case rel => exact ⟨k + 1, by omega, by go_num, by rw [HT.out]; have := hg4.out; rwa [splice_map (by have := HX.out; have := HDL.out; omega)] at this, HB4.out⟩
        case measure => simp [intOf]; omega)
    · have ek : k = n := by omega
      have HRr : Hid (d.bytes = dAll d.lasts (d.waits.take k)) := by rw [Hid, DSt.bytes, ek, HLen.out, List.take_length]
      have hdl := dAll_len (d.waits.take k) d.lasts (fun x hx => H.out.fit x (List.mem_of_mem_take hx))
      rw [HM.out] at hdl
      have HDL := hid hdl
      clear ek hdl
      go_wp2
      go_ret
      refine ⟨_, rfl, ?_, HB.out⟩
      rw [HRr.out, ← HDL.out]
      exact own_of_row hgo (by rw [HDL.out]; exact HCp.out) hcapm HRo.out

end Go.Proofs.Ytmfbbonppmhabaa

namespace Go.Proofs.Ytmfbbonppmhabaa
set_option linter.unusedVariables false
set_option linter.unusedSimpArgs false
open Go.RowKit

theorem done_fin {w w1 : World} {B : Nat} {F : Nat → Prop} {g : Nat} {d : DSt} {gl : Nat} {vw : Value} {ws : List WR} (H : DiskIn w B F g d gl vw ws) (keep : Int) (ht : Touch (fun b => b = gl) w w1)
    (hr : w1.heap[gl]? = some (.cells ((dDone d.lasts keep d.waits).map bv).toArray 5 (0, 0))) :
    IsDisk (w1.setCell ⟨g, 1, none⟩ (.slice none 0 0)) B F (.pointer (some ⟨g, 0, none⟩)) (d.crash keep) ∧ Touch F w (w1.setCell ⟨g, 1, none⟩ (.slice none 0 0)) := by
  have hg := (H.low _ H.foot.1).2
  have hlen := dDone_len d.waits d.lasts keep H.fit
  have k1g : w1.heap[g]? = w.heap[g]? := ht.block g hg H.ne.1
  refine ⟨⟨g, gl, .slice none 0 0, [], rfl, ?_⟩, (ht.mono (fun x hx => by subst hx; exact H.foot.2.1)).setCell (.inl H.foot.1) _⟩
  refine ⟨?_, ?_, OwnG.nil _ _, rfl, fun k h => by simp at h, fun x hx => by simp [DSt.crash] at hx, by show 1 ≤ (dDone d.lasts keep d.waits).length ∧ (dDone d.lasts keep d.waits).length ≤ 65536; rw [hlen]; exact H.big, ⟨H.ne.1, by simp [Value.ownBlock], by simp [Value.ownBlock]⟩, ⟨H.foot.1, H.foot.2.1, fun b hb => by simp [Value.ownBlock] at hb⟩, ?_⟩
  · have := (heap_set3 (k1g.trans H.blk) (.slice none 0 0)).2.1
    have e : (d.crash keep).lasts.length = d.lasts.length := hlen
    rw [e]; exact this
  · rw [heap_setCell_other _ _ _ _ (Ne.symm H.ne.1)]; exact hr
  · intro b hb
    have := H.low b hb
    have := ht.size
    exact ⟨by omega, by simp; omega⟩

set_option maxRecDepth 10000 in
set_option maxHeartbeats 1600000 in
theorem done_any {w : World} {B : Nat} {F : Nat → Prop} {p : Value} {d : DSt} (h : IsDisk w B F p d) (keep : Int) (hk0 : -9223372036854775808 ≤ keep) (hk1 : keep ≤ 9223372036854775807) (hw : d.waits.length ≤ 1000000) :
    Calls Try.prog 52 #[p, .int .i64 keep] w fun e w' => e = .returned (.tuple #[]) ∧ IsDisk w' B F p (d.crash keep) ∧ Touch F w w' := by
  obtain ⟨g, gl, vw, ws, rfl, h⟩ := h
  obtain ⟨c0, c1, c2, cf⟩ := cells3 h.blk
  obtain ⟨av, cv, rfl, hcv, hcm, hnil, hat, hbl⟩ := h.wts.at eWok
  have HAT := hid hat
  have HBl := hid (fun x hx => by have := hbl x hx; intro e; exact h.ne.2.2 (by rw [this, e]) : ∀ x, av = some x → ¬ x.block = gl)
  have H := hid h
  have HLen := hid h.len
  have hbig := h.big
  have hg := (h.low _ h.foot.1).2
  have hgl := (h.low _ h.foot.2.1).2
  have hgne := h.ne.1
  have i0 := fun k i hi hk => idxW av ws.length cv hat.ok k i hi hk
  have hw' : ws.length ≤ 1000000 := by rw [h.len]; exact hw
  have HLas := hid h.las
  clear h hat hnil hbl hw
  generalize hn : ws.length = n at *
  have HNw := hid hn
  clear hn
  generalize hm : d.lasts.length = m at *
  have HM := hid hm
  clear hm
  go_enter Try.func52, Try.ntmps52
  go_wp2_with fail
  go_loopw [1, 12] (fun s q wr => ∃ k : Nat, k ≤ n ∧ s = .int .i64 (dKeep keep (d.waits.take k)) ∧ -9223372036854775808 ≤ dKeep keep (d.waits.take k) ∧ dKeep keep (d.waits.take k) ≤ 9223372036854775807 ∧ q = .int .i64 k ∧ wr.heap[gl]? = some (.cells ((dDone d.lasts keep (d.waits.take k)).map bv).toArray 5 (0, 0)) ∧ Touch (fun b => b = gl) w wr) (fun _ q _ => n - (intOf q).toNat)
  case atStart => exact ⟨0, Nat.zero_le _, rfl, hk0, hk1, rfl, HLas.out, Touch.refl _ _⟩
  case round =>
    obtain ⟨k, hk, rfl, hkp0, hkp1, rfl, hrow, hbel⟩ := hrel
    have HB := hid hbel
    have HRo := hid hrow
    have hsz := hbel.size
    have kg := hbel.block g hg hgne
    have c0' : wr.cell? ⟨g, 0, none⟩ = some (.slice (some ⟨gl, 0, none⟩) m m) := (World.cell?_of_block (w := w) (a := ⟨g, 0, none⟩) kg).trans c0
    have c1' : wr.cell? ⟨g, 1, none⟩ = some (.slice av n cv) := (World.cell?_of_block (w := w) (a := ⟨g, 1, none⟩) kg).trans c1
    have cf' : ∀ j, wr.frozen? ⟨g, j, none⟩ = false := fun j => (World.frozen?_of_block (w := w) (a := ⟨g, j, none⟩) kg).trans (cf j)
    clear hbel hrow kg
    by_cases hlt : k < n
    · have hkw : k < ws.length := by rw [HNw.out]; exact hlt
      have hkd : k < d.waits.length := by rw [← HLen.out]; exact hlt
      have i1 := i0 k k rfl hlt
      obtain ⟨x0, x1⟩ := (HAT.out.touch eWok HB.out HBl.out).cellW' hkw
      obtain ⟨e1, e2, e3, e4, e5, e6, e7⟩ := H.out.wr hkw hkd
      have HT := hid (dDone_take (l := d.lasts) (keep := keep) hkd)
      have HK := hid (dKeep_take (keep := keep) hkd)
      have HE5 := hid (e5.touch HB.out (fun x hx => (e7 x hx).2.2.1))
      have hdl := dDone_len (d.waits.take k) d.lasts keep (fun x hx => H.out.fit x (List.mem_of_mem_take hx))
      rw [HM.out] at hdl e6
      rw [← e1] at HT e6
      have hatm : ws[k].at_ ≤ m := by omega
      have HX : Hid (d.waits[k].2.length = ws[k].n ∧ ws[k].at_ + ws[k].n ≤ m ∧ ws[k].n ≤ ws[k].c) := ⟨e2.symm, by omega, e3⟩
      have hxc : ws[k].n ≤ ws[k].c := e3
      have hglt : gl < wr.heap.size := by omega
      have c0a : ∀ ob : Obj, (wr.alloc ob).cell? ⟨g, 0, none⟩ = some (.slice (some ⟨gl, 0, none⟩) m m) := fun ob => (World.cell?_of_block (w := wr) (a := ⟨g, 0, none⟩) (Below.heap_alloc _ _ _ (by show g < _; omega))).trans c0'
      clear i0 e1 e2 e3 e4 e5 e6 e7
      generalize ws[k] = x at *
      generalize d.waits[k].2 = b at *
      generalize dDone d.lasts keep (d.waits.take k) = o at *
      generalize dKeep keep (d.waits.take k) = kp at *
      generalize adr av (k * 2) = A at *
      have HDL := hid hdl
      clear hdl
      have HG : Hid (∀ ob : Obj, (wr.alloc ob).heap[gl]? = some (.cells (o.map bv).toArray 5 (0, 0))) := fun ob => (Below.heap_alloc _ _ _ hglt).trans HRo.out
      have HP : Hid (∀ (c : Nat) (ob : Obj), c ≤ x.n → 0 < ((b.take c).map bv).length → cutH (some ⟨gl, 0, none⟩) x.at_ m = some ⟨gl, x.at_, none⟩ ∧ ∃ ad, cutH x.a 0 x.c = some ad ∧ ∀ j v, ((b.take c).map bv)[j]? = some v → (wr.alloc ob).cell? (ad.add j) = some v) := by
        intro c ob hc hp
        have hx := HX.out
        rw [List.length_map] at hp
        have hp2 := hp
        rw [List.length_take] at hp2
        exact ⟨cut_at (by omega), ((HE5.out.all ((Below.refl _ _).alloc (Nat.le_refl _) ob)).h c x.c (by omega)).src hp⟩
      have HN : Hid (∀ c : Nat, c ≤ x.n → ((b.take c).map bv).length = Nat.min c (m - x.at_)) := by
        intro c hc
        have hx := HX.out
        rw [List.length_map, List.length_take, Nat.min_eq_left (by omega)]; exact (Nat.min_eq_left (by omega)).symm
      have HF : Hid (∀ c : Nat, c ≤ x.n → x.at_ + ((b.take c).map bv).length ≤ (o.map bv).length) := by
        intro c hc
        have hx := HX.out
        have hd := HDL.out
        rw [List.length_map, List.length_take, List.length_map]; omega
      have HT2 : Hid (∀ c : Nat, (c : Int) = max 0 (min kp x.n) → dDone d.lasts keep (d.waits.take (k + 1)) = splice o x.at_ (b.take c)) := by
        intro c hc
        have hx := HX.out
        rw [HT.out, show (min kp (b.length : Int)).toNat = c by rw [hx.1]; omega]
      have HK2 : Hid (dKeep keep (d.waits.take (k + 1)) = kp - max 0 (min kp x.n)) := by
        have hx := HX.out
        rw [Hid, HK.out, hx.1]
      have HS : Hid (∀ (c : Nat) (w4 : World), c ≤ x.n → w4.heap[gl]? = some (.cells (splice (o.map bv) x.at_ ((b.take c).map bv)).toArray 5 (0, 0)) → w4.heap[gl]? = some (.cells ((splice o x.at_ (b.take c)).map bv).toArray 5 (0, 0))) := by
        intro c w4 hc h4
        have hx := HX.out
        have hd := HDL.out
        have := splice_map (l := o) (b := b.take c) (sp := []) (k := x.at_) (by rw [List.length_take]; omega)
        rw [List.append_nil, List.append_nil] at this
        rw [h4, this]
      have icut := cut_lI (some ⟨gl, 0, none⟩) m m x.at_ x.at_ rfl hatm (Nat.le_refl _)
      clear HX HDL HT HK HE5
      by_cases h1 : (x.n : Int) < kp
      · by_cases h2 : (0 : Int) < x.n
        · have hcn : x.n ≤ x.n := Nat.le_refl _
          have hcm : Hid ((x.n : Int) = max 0 (min kp x.n)) := by rw [Hid]; omega
          have icut2 := cut_hI x.a x.n x.c x.n (x.n : Int) rfl (by omega)
          go_wp2_with fail
          go_region_law (refine step_copyT rfl (.tmp 28) (.tmp 32) 27 27 rfl 5 sliceB (by kernel_rfl) _ _ _ _ _ _ rfl rfl gl x.at_ _ _ (by exact HG.out _) ((b.take (x.n)).map bv) (by exact HN.out _ hcn) (by exact HP.out _ _ hcn) (HF.out _ hcn) (bv_one _) ?_; intro w4 hg4 ht4; have HB4 := hid ht4; clear ht4)
          all_goals (
            go_wp2
            go_roundw
            case rel => exact ⟨k + 1, by omega, by rw [HK2.out]; go_num, by rw [HK2.out]; omega, by rw [HK2.out]; omega, by go_num, by rw [HT2.out _ hcm.out]; exact HS.out _ _ hcn hg4.out, (HB.out.alloc _).trans (Touch.undrew HB4.out) (fun x hx => .inl hx)⟩
            case measure => simp [intOf]; omega)
        · have hcn : 0 ≤ x.n := Nat.zero_le _
          have hcm : Hid (((0 : Nat) : Int) = max 0 (min kp x.n)) := by rw [Hid]; omega
          have h3 : (x.n : Int) ≤ 0 := by omega
          have icut2 := cut_hI x.a x.n x.c 0 0 rfl (by omega)
          go_wp2_with fail
          go_region_law (refine step_copyT rfl (.tmp 28) (.tmp 32) 27 27 rfl 5 sliceB (by kernel_rfl) _ _ _ _ _ _ rfl rfl gl x.at_ _ _ (by exact HG.out _) ((b.take (0)).map bv) (by exact HN.out _ hcn) (by exact HP.out _ _ hcn) (HF.out _ hcn) (bv_one _) ?_; intro w4 hg4 ht4; have HB4 := hid ht4; clear ht4)
          all_goals (
            go_wp2
            go_roundw
            case rel => exact ⟨k + 1, by omega, by rw [HK2.out]; go_num, by rw [HK2.out]; omega, by rw [HK2.out]; omega, by go_num, by rw [HT2.out _ hcm.out]; exact HS.out _ _ hcn hg4.out, (HB.out.alloc _).trans (Touch.undrew HB4.out) (fun x hx => .inl hx)⟩
            case measure => simp [intOf]; omega)
      · have h1' : kp ≤ (x.n : Int) := by omega
        by_cases h2 : 0 < kp
        · obtain ⟨c, rfl⟩ := Int.eq_ofNat_of_zero_le (show 0 ≤ kp by omega)
          have hcn : c ≤ x.n := by omega
          have hcm : Hid ((c : Int) = max 0 (min (c : Int) x.n)) := by rw [Hid]; omega
          have icut2 := cut_hI x.a x.n x.c c (c : Int) rfl (by omega)
          go_wp2_with fail
          go_region_law (refine step_copyT rfl (.tmp 28) (.tmp 32) 27 27 rfl 5 sliceB (by kernel_rfl) _ _ _ _ _ _ rfl rfl gl x.at_ _ _ (by exact HG.out _) ((b.take (c)).map bv) (by exact HN.out _ hcn) (by exact HP.out _ _ hcn) (HF.out _ hcn) (bv_one _) ?_; intro w4 hg4 ht4; have HB4 := hid ht4; clear ht4)
          all_goals (
            go_wp2
            go_roundw
            case rel => exact ⟨k + 1, by omega, by rw [HK2.out]; go_num, by rw [HK2.out]; omega, by rw [HK2.out]; omega, by go_num, by rw [HT2.out _ hcm.out]; exact HS.out _ _ hcn hg4.out, (HB.out.alloc _).trans (Touch.undrew HB4.out) (fun x hx => .inl hx)⟩
            case measure => simp [intOf]; omega)
        · have hcn : 0 ≤ x.n := Nat.zero_le _
          have hcm : Hid (((0 : Nat) : Int) = max 0 (min kp x.n)) := by rw [Hid]; omega
          have h3 : kp ≤ 0 := by omega
          have icut2 := cut_hI x.a x.n x.c 0 0 rfl (by omega)
          go_wp2_with fail
          go_region_law (refine step_copyT rfl (.tmp 28) (.tmp 32) 27 27 rfl 5 sliceB (by kernel_rfl) _ _ _ _ _ _ rfl rfl gl x.at_ _ _ (by exact HG.out _) ((b.take (0)).map bv) (by exact HN.out _ hcn) (by exact HP.out _ _ hcn) (HF.out _ hcn) (bv_one _) ?_; intro w4 hg4 ht4; have HB4 := hid ht4; clear ht4)
          all_goals (
            go_wp2
            go_roundw
            case rel => exact ⟨k + 1, by omega, by rw [HK2.out]; go_num, by rw [HK2.out]; omega, by rw [HK2.out]; omega, by go_num, by rw [HT2.out _ hcm.out]; exact HS.out _ _ hcn hg4.out, (HB.out.alloc _).trans (Touch.undrew HB4.out) (fun x hx => .inl hx)⟩
            case measure => simp [intOf]; omega)
    · have ek : k = n := by omega
      have HRr : Hid (d.waits.take k = d.waits) := by rw [Hid, ek, HLen.out, List.take_length]
      clear ek
      go_wp2
      refine bodyPost_end (results_none rfl _ _ _) rfl ⟨rfl, ?_⟩
      have := HRo.out
      rw [HRr.out] at this
      exact done_fin H.out keep HB.out this

theorem crash_any {w : World} {B : Nat} {F : Nat → Prop} {p : Value} {d : DSt} (h : IsDisk w B F p d) (keep : Int) (hk0 : -9223372036854775808 ≤ keep) (hk1 : keep ≤ 9223372036854775807) (hw : d.waits.length ≤ 1000000) :
    Calls Try.prog 21 #[p, .int .i64 keep] w fun e w' => e = .returned (.tuple #[]) ∧ IsDisk w' B F p (d.crash keep) ∧ Touch F w w' := by
  have H := hid h
  obtain ⟨g, gl, vw, ws, rfl, h⟩ := h
  clear h
  go_enter Try.func21, Try.ntmps21
  go_wp2_with fail
  refine (done_any (by exact H.out) keep hk0 hk1 hw).mono ?_
  rintro e w' ⟨rfl, h1, h2⟩
  have H1 := hid h1
  have H2 := hid h2
  clear h1 h2
  go_wp2
  refine bodyPost_end (results_none rfl _ _ _) rfl ⟨rfl, H1.out, H2.out⟩

theorem sync_any {w : World} {B : Nat} {F : Nat → Prop} {p : Value} {d : DSt} (h : IsDisk w B F p d) (hw : d.waits.length ≤ 1000000) (hs : d.syncs < 1000000000) :
    Calls Try.prog 39 #[p] w fun e w' => e = .returned (.tuple #[]) ∧ IsDisk w' B F p d.sync ∧ Touch F w w' := by
  have H := hid h
  obtain ⟨g, gl, vw, ws, rfl, h⟩ := h
  have hdw := dWaits_le h.fit
  have hmul : d.waits.length * d.lasts.length ≤ 1000000 * 65536 := Nat.mul_le_mul hw h.big.2
  clear h
  go_enter Try.func39, Try.ntmps39
  go_wp2_with fail
  refine (waits_any (by exact H.out) hw).mono ?_
  rintro e w1 ⟨rfl, hb1⟩
  have H1 := hid (H.out.below hb1)
  have HB1 := hid hb1
  clear hb1
  go_wp2_with fail
  refine (done_any (by exact H1.out) (dWaits d.waits : Int) (by omega) (by omega) hw).mono ?_
  rintro e w2 ⟨rfl, h2, ht2⟩
  have H2 := hid h2
  have HT2 := hid ht2
  clear h2 ht2
  obtain ⟨g', gl', vw', ws', ep, h3⟩ := H2.out
  cases ep
  obtain ⟨c0, c1, c2, cf⟩ := cells3 h3.blk
  have H3 := hid h3
  have c2' : w2.cell? ⟨g, 2, none⟩ = some (.int .i64 (d.syncs : Int)) := c2
  have f2' := cf 2
  clear h3 c0 c1 c2 cf
  go_wp2_with fail
  refine (add_any (by exact c2') (by exact f2') (by omega)).mono ?_
  rintro e w3 ⟨rfl, rfl⟩
  go_wp2
  refine bodyPost_end (results_none rfl _ _ _) rfl ⟨rfl, ⟨g, gl', vw', ws', rfl, ?_⟩, ?_⟩
  · have h3 := H3.out
    have hset : Touch (fun b => b = g) w2 (w2.setCell ⟨g, 2, none⟩ (.int .i64 ((d.syncs + 1 : Nat) : Int))) := (Touch.refl (fun b => b = g) w2).setCell (p := ⟨g, 2, none⟩) (.inl rfl) _
    refine ⟨(heap_set3 h3.blk _).2.2, ?_, h3.wts.touch hset (fun b hb e => by subst e; exact h3.ne.2.1 hb), h3.len, fun k hk hk' => by simp [DSt.sync, DSt.crash] at hk', h3.fit, h3.big, h3.ne, h3.foot, fun b hb => ⟨(h3.low b hb).1, by simp; exact (h3.low b hb).2⟩⟩
    rw [heap_setCell_other _ _ _ _ (Ne.symm h3.ne.1)]; exact h3.las
  · exact ((Touch.ofBelow (M := F) HB1.out).trans HT2.out (fun x hx => .inl hx)).setCell (.inl H3.out.foot.1) _

end Go.Proofs.Ytmfbbonppmhabaa
