/- The walks of layer 4's functions. -/
import Derived.Test.YtkkailggpfmgaaaDiskLib
namespace Go.Proofs.Ytkkailggpfmgaaa
set_option linter.unusedVariables false
set_option linter.unusedSimpArgs false
open Go.RowKit

/-- One write that waits, as it lies. -/
structure WR where
  at_ : Nat
  a : Option Addr
  n : Nat
  c : Nat
def WR.v (x : WR) : Value := .slice x.a x.n x.c
def eW : Elt WR := { T := 72, E := 99, s := 2, byt := 32, z := .agg #[.int .i64 0, .slice none 0 0], enc := fun x => [.int .i64 x.at_, .slice x.a x.n x.c] }
theorem eWok : eW.Ok := ⟨fun _ => rfl, fun x u hu => by simp [eW] at hu; rcases hu with rfl | rfl <;> rfl, by decide, by kernel_rfl, by kernel_rfl, by rfl⟩

structure DiskIn (w : World) (B : Nat) (F : Nat → Prop) (g : Nat) (d : DSt) (gl : Nat) (vw : Value) (ws : List WR) : Prop where
  blk : w.heap[g]? = some (.cells #[.slice (some ⟨gl, 0, none⟩) d.lasts.length d.lasts.length, vw, .int .i64 (d.syncs : Int)] 79 (0, 0))
  las : w.heap[gl]? = some (.cells (d.lasts.map bv).toArray 5 (0, 0))
  wts : OwnG eW w B vw ws
  len : ws.length = d.waits.length
  each : ∀ k (h : k < ws.length) (h' : k < d.waits.length), ws[k].at_ = d.waits[k].1 ∧ Own w B ws[k].v d.waits[k].2 ∧ (∀ b, ws[k].v.ownBlock = some b → F b ∧ b ≠ g ∧ b ≠ gl ∧ vw.ownBlock ≠ some b)
  fit : ∀ x ∈ d.waits, x.1 + x.2.length ≤ d.lasts.length
  big : 1 ≤ d.lasts.length ∧ d.lasts.length ≤ 65536
  ne : g ≠ gl ∧ vw.ownBlock ≠ some g ∧ vw.ownBlock ≠ some gl
  foot : F g ∧ F gl ∧ (∀ b, vw.ownBlock = some b → F b)
  low : ∀ b, F b → B ≤ b ∧ b < w.heap.size
/-- The disk `d` behind the pointer `p`; all of it lies in the blocks of `F`. -/
def IsDisk (w : World) (B : Nat) (F : Nat → Prop) (p : Value) (d : DSt) : Prop := ∃ g gl vw ws, p = .pointer (some ⟨g, 0, none⟩) ∧ DiskIn w B F g d gl vw ws

theorem DiskIn.touch {w w' : World} {B : Nat} {F M : Nat → Prop} {g : Nat} {d : DSt} {gl : Nat} {vw : Value} {ws : List WR} (h : DiskIn w B F g d gl vw ws) (ht : Touch M w w') (hM : ∀ b, F b → ¬ M b) : DiskIn w' B F g d gl vw ws where
  blk := by rw [ht.block g (h.low _ h.foot.1).2 (hM _ h.foot.1)]; exact h.blk
  las := by rw [ht.block gl (h.low _ h.foot.2.1).2 (hM _ h.foot.2.1)]; exact h.las
  wts := h.wts.touch ht (fun b hb => hM b (h.foot.2.2 b hb))
  len := h.len
  each := fun k h1 h2 => by
    obtain ⟨e1, e2, e3⟩ := h.each k h1 h2
    exact ⟨e1, e2.touch ht (fun b hb => hM b (e3 b hb).1), e3⟩
  fit := h.fit
  big := h.big
  ne := h.ne
  foot := h.foot
  low := fun b hb => ⟨(h.low b hb).1, Nat.lt_of_lt_of_le (h.low b hb).2 ht.size⟩
theorem IsDisk.touch {w w' : World} {B : Nat} {F M : Nat → Prop} {p : Value} {d : DSt} (h : IsDisk w B F p d) (ht : Touch M w w') (hM : ∀ b, F b → ¬ M b) : IsDisk w' B F p d := by
  obtain ⟨g, gl, vw, ws, e, h⟩ := h
  exact ⟨g, gl, vw, ws, e, h.touch ht hM⟩
theorem IsDisk.below {w w' : World} {B : Nat} {F : Nat → Prop} {p : Value} {d : DSt} (h : IsDisk w B F p d) (hb : Below w.heap.size w w') : IsDisk w' B F p d :=
  h.touch (M := fun _ => False) (Touch.ofBelow hb) (fun _ _ h => h)

theorem own_whole {w : World} {B g n : Nat} {l : List UInt8} (h : Own w B (.slice (some ⟨g, 0, none⟩) n n) l) : w.heap[g]? = some (.cells (l.map bv).toArray 5 (0, 0)) ∧ l.length = n := by
  obtain ⟨_, h⟩ := h
  rcases h with ⟨h0, _⟩ | ⟨g', cap, cur, e, hB, hg, h1, h2, h3, h4⟩
  · cases h0
  · cases e
    refine ⟨?_, rfl⟩
    rw [Nat.mul_one] at h3
    rw [Nat.mul_one, List.take_of_length_le (by simp [h3])] at h4
    rw [hg, ← h4, Array.toArray_toList]
theorem cells3 {w : World} {g : Nat} {x y z : Value} {T : TypeId} (h : w.heap[g]? = some (.cells #[x, y, z] T (0, 0))) :
    w.cell? ⟨g, 0, none⟩ = some x ∧ w.cell? ⟨g, 1, none⟩ = some y ∧ w.cell? ⟨g, 2, none⟩ = some z ∧ ∀ j, w.frozen? ⟨g, j, none⟩ = false :=
  ⟨cell_of_row w g 0 _ _ _ h, cell_of_row w g 1 _ _ _ h, cell_of_row w g 2 _ _ _ h, fun j => frozen_of_row w g j _ _ h⟩

set_option maxRecDepth 10000 in
theorem clone_any (a : Option Addr) (l : List UInt8) (n cap : Nat) (w : World) (hn : l.length = n) (hm : n ≤ 140737488355328) (hnil : a = none → cap = 0) (hA : At w a l) :
    Calls Try.prog 61 #[.slice a n cap] w fun e w' => ∃ v, e = .returned v ∧ Own w' w.heap.size v l ∧ Below w.heap.size w w' := by
  have HA := hid hA
  have HN := hid hn
  cases a with
  | none =>
    have hc := hnil rfl
    subst hc
    have hl : l = [] := by
      cases l with
      | nil => rfl
      | cons c l => have := (hA 0 (by simp)).1; cases this
    subst hl
    have hn0 : n = 0 := by rw [← hn]; rfl
    subst hn0
    clear hA hn
    have hq := fun (wx : World) (m c : Nat) => Lib.run_eql_slice_nil (P := Try.prog) wx 32 5 none m c 0 0 sliceB
    go_enter Try.func61, Try.ntmps61
    go_wp2
    go_ret
    exact ⟨_, rfl, Own.nil _ _, Below.refl _ _⟩
  | some x =>
    clear hA hn
    have HX : Hid (#[].toList = ([] : List UInt8).map bv) := rfl
    have hq := fun (wx : World) (m c : Nat) => Lib.run_eql_slice_nil (P := Try.prog) wx 32 5 (some x) m c 0 0 sliceB
    go_enter Try.func61, Try.ntmps61
    go_wp2_with (at_builtin; refine wpList_app (by rfl) (.tmp 5) (.tmp 6) 32 32 32 rfl rfl _ _ rfl rfl (run_app1 _ w.heap.size _ [] (own_new w w.heap.size [] _ 0 rfl HX.out (by unfold maxLen; simp) (Nat.le_refl _)) (some x) l _ cap HN.out (by exact HA.out.all ((Below.refl _ _).alloc (Nat.le_refl _) _)) (by simp; omega) (by simp)) ?_; rintro v2 w2 ⟨hown2, hb2⟩; have HO2 := hid hown2; have HB2 := hid hb2; clear hown2 hb2)
    go_ret
    exact ⟨_, rfl, by simpa using HO2.out, ((Below.refl _ _).alloc (Nat.le_refl _) _).trans HB2.out⟩

theorem new_no (n : Int) (h : n < 1 ∨ 65536 < n) (w : World) : Calls Try.prog 14 #[.int .i64 n] w fun e w' => e = .returned (.pointer none) ∧ w' = w := by
  by_cases h0 : n < 1
  · have g0 : decide (n < 1) = true := by simp; omega
    go_enter Try.func14, Try.ntmps14
    go_wp2
    go_ret
    exact ⟨rfl, rfl⟩
  · have g0 : decide (n < 1) = false := by simp; omega
    have g1 : decide (65536 < n) = true := by simp; omega
    go_enter Try.func14, Try.ntmps14
    go_wp2
    go_ret
    exact ⟨rfl, rfl⟩

theorem new_yes (n : Nat) (h1 : 1 ≤ n) (h2 : n ≤ 65536) (w : World) :
    Calls Try.prog 14 #[.int .i64 n] w fun e w' => ∃ p F, e = .returned p ∧ IsDisk w' w.heap.size F p (DSt.new n) ∧ Below w.heap.size w w' := by
  have g0 : decide ((n : Int) < 1) = false := by simp; omega
  have g1 : decide ((65536 : Int) < n) = false := by simp; omega
  go_enter Try.func14, Try.ntmps14
  go_wp2_with (at_make; refine wpList_make (by rfl) (.tmp 9) (.tmp 9) 32 rfl _ _ rfl rfl (run_make _ n (by omega)) ?_; rintro v2 w2 ⟨rfl, hown2, hb2⟩; have HO2 := hid hown2; have HB2 := hid hb2; clear hown2 hb2)
  go_ret
  have hlt := (own_lt ((ownB _ _ _ _).2 HO2.out) w.heap.size rfl).2
  have hb3 : Below w2.heap.size w2 (w2.alloc (.cells #[.slice (some ⟨w.heap.size, 0, none⟩) n n, .slice none 0 0, .int .i64 0] 79)) := (Below.refl _ _).alloc (Nat.le_refl _) _
  refine ⟨_, fun b => b = w.heap.size ∨ b = w2.heap.size, rfl, ⟨w2.heap.size, w.heap.size, .slice none 0 0, [], rfl, ?_⟩, HB2.out.trans (hb3.mono HB2.out.size)⟩
  have hw := own_whole (HO2.out.stay hb3)
  refine ⟨?_, by simpa [DSt.new] using hw.1, OwnG.nil _ _, rfl, fun k h => by simp at h, fun x hx => by simp [DSt.new] at hx, by simp [DSt.new]; omega, ⟨by omega, by simp [Value.ownBlock], by simp [Value.ownBlock]⟩, ⟨.inr rfl, .inl rfl, fun b hb => by simp [Value.ownBlock] at hb⟩, ?_⟩
  · have := heap_alloc_new w2 (.cells #[.slice (some ⟨w.heap.size, 0, none⟩) n n, .slice none 0 0, .int .i64 0] 79)
    simpa [DSt.new] using this
  · rintro b (rfl | rfl) <;> simp <;> omega

theorem size_any {w : World} {B : Nat} {F : Nat → Prop} {p : Value} {d : DSt} (h : IsDisk w B F p d) :
    Calls Try.prog 46 #[p] w fun e w' => e = .returned (.int .i64 (d.lasts.length : Int)) ∧ w' = w := by
  obtain ⟨g, gl, vw, ws, rfl, h⟩ := h
  obtain ⟨c0, c1, c2, cf⟩ := cells3 h.blk
  clear h
  generalize d.lasts.length = n at *
  go_enter Try.func46, Try.ntmps46
  go_wp2
  go_ret
  exact ⟨rfl, rfl⟩

theorem add_any {w : World} {g : Nat} {x : Nat} (h : w.cell? ⟨g, 2, none⟩ = some (.int .i64 x)) (hf : w.frozen? ⟨g, 2, none⟩ = false) (hx : x < 9223372036854775807) :
    Calls Try.prog 66 #[.pointer (some ⟨g, 2, none⟩), .int .i64 1] w fun e w' => e = .returned (.int .i64 ((x + 1 : Nat) : Int)) ∧ w' = w.setCell ⟨g, 2, none⟩ (.int .i64 ((x + 1 : Nat) : Int)) := by
  have hl := run_call_add (P := Try.prog) Try.func75 (by kernel_rfl) (by kernel_rfl) (by kernel_rfl) .i64 (by kernel_rfl) (y := 1) (s := ((x + 1 : Nat) : Int)) h hf (by
    have : IntKind.i64.wrap ((x : Int) + 1) = ((x + 1 : Nat) : Int) := by rw [IntKind.wrap_i64]; omega
    simp [go_sem, this])
  go_enter Try.func66, Try.ntmps66
  go_wp2
  go_ret
  exact ⟨rfl, rfl⟩

theorem errno_case (d : DSt) (a : Int) (n : Nat) : d.can a n = if a < 0 then 1 else if (n : Int) > d.lasts.length ∨ a > (d.lasts.length : Int) - n then 3 else 0 := rfl

set_option maxRecDepth 10000 in
theorem write_no {w : World} {B : Nat} {F : Nat → Prop} {p : Value} {d : DSt} (h : IsDisk w B F p d) (at_ : Int) (a : Option Addr) (n cap : Nat) (hc : d.can at_ n ≠ 0) (hn : n ≤ 140737488355328) :
    Calls Try.prog 50 #[p, .int .i64 at_, .slice a n cap] w fun e w' => e = .returned (.int .i64 (d.can at_ n)) ∧ w' = w := by
  obtain ⟨g, gl, vw, ws, rfl, h⟩ := h
  obtain ⟨c0, c1, c2, cf⟩ := cells3 h.blk
  have hbig := h.big
  clear h
  unfold DSt.can at *
  generalize d.lasts.length = m at *
  by_cases h0 : at_ < 0
  · have H := hid (show (if at_ < 0 then (1 : Int) else if (n : Int) > m ∨ at_ > (m : Int) - n then 3 else 0) = 1 by rw [if_pos h0])
    have g0 : decide (at_ < 0) = true := by simp; omega
    clear hc
    go_enter Try.func50, Try.ntmps50
    go_wp2
    go_ret
    exact ⟨rfl, rfl⟩
  have g0 : decide (at_ < 0) = false := by simp; omega
  by_cases h1 : m < n
  · have H := hid (show (if at_ < 0 then (1 : Int) else if (n : Int) > m ∨ at_ > (m : Int) - n then 3 else 0) = 3 by rw [if_neg h0, if_pos (.inl (by omega))])
    have g1 : decide (m < n) = true := by simp; omega
    clear hc
    go_enter Try.func50, Try.ntmps50
    go_wp2
    go_ret
    exact ⟨rfl, rfl⟩
  have g1 : decide (m < n) = false := by simp; omega
  by_cases h2 : (m : Int) - n < at_
  · have H := hid (show (if at_ < 0 then (1 : Int) else if (n : Int) > m ∨ at_ > (m : Int) - n then 3 else 0) = 3 by rw [if_neg h0, if_pos (.inr (by omega))])
    have g2 : decide ((m : Int) - n < at_) = true := by simp; omega
    clear hc
    go_enter Try.func50, Try.ntmps50
    go_wp2
    go_ret
    exact ⟨rfl, rfl⟩
  · exfalso; apply hc; rw [if_neg h0, if_neg (by omega)]

theorem heap_set3 {w : World} {g : Nat} {x y z : Value} {T : TypeId} (h : w.heap[g]? = some (.cells #[x, y, z] T (0, 0))) (u : Value) :
    (w.setCell ⟨g, 0, none⟩ u).heap[g]? = some (.cells #[u, y, z] T (0, 0)) ∧ (w.setCell ⟨g, 1, none⟩ u).heap[g]? = some (.cells #[x, u, z] T (0, 0)) ∧ (w.setCell ⟨g, 2, none⟩ u).heap[g]? = some (.cells #[x, y, u] T (0, 0)) :=
  ⟨heap_setCell_same w g 0 _ _ u h, heap_setCell_same w g 1 _ _ u h, heap_setCell_same w g 2 _ _ u h⟩

theorem write_fin {w w1 w2 : World} {B : Nat} {F : Nat → Prop} {g : Nat} {d : DSt} {gl : Nat} {vw v2 : Value} {ws : List WR} {at_ n1 k1 : Nat} {a1 : Option Addr} {l : List UInt8} (H : DiskIn w B F g d gl vw ws) (hb : Below w.heap.size w w1)
    (ho : Own w1 w.heap.size (.slice a1 n1 k1) l) (hp : Apped eW w1 w2 B vw v2 (ws ++ [⟨at_, a1, n1, k1⟩])) (hm : at_ + l.length ≤ d.lasts.length) :
    ∃ F', IsDisk (w2.setCell ⟨g, 1, none⟩ v2) B F' (.pointer (some ⟨g, 0, none⟩)) { d with waits := d.waits ++ [(at_, l)] } ∧ Touch F w (w2.setCell ⟨g, 1, none⟩ v2) ∧ ∀ b, F' b → F b ∨ w.heap.size ≤ b := by
  have hg := (H.low _ H.foot.1).2
  have hgl := (H.low _ H.foot.2.1).2
  have hs1 := hb.size
  have hs2 := hp.below.size
  have hBw : B ≤ w.heap.size := by have := H.low _ H.foot.1; omega
  have hvg : v2.ownBlock ≠ some g := by
    intro e
    rcases hp.blk g e with h | h
    · exact H.ne.2.1 h
    · omega
  have k1g : w2.heap[g]? = w.heap[g]? := (hp.keep g (by omega) H.ne.2.1).trans (hb.block g hg)
  have k1l : w2.heap[gl]? = w.heap[gl]? := (hp.keep gl (by omega) H.ne.2.2).trans (hb.block gl hgl)
  have hset : Touch (fun b => b = g) w2 (w2.setCell ⟨g, 1, none⟩ v2) := (Touch.refl (fun b => b = g) w2).setCell (p := ⟨g, 1, none⟩) (.inl rfl) v2
  have ht : Touch F w (w2.setCell ⟨g, 1, none⟩ v2) :=
    ((Touch.ofBelow hb).trans hp.touch (fun x hx => .inl (H.foot.2.2 x hx))).setCell (.inl H.foot.1) v2
  refine ⟨fun b => F b ∨ (w.heap.size ≤ b ∧ b < w2.heap.size), ⟨g, gl, v2, ws ++ [⟨at_, a1, n1, k1⟩], rfl, ?_⟩, ht, fun b hb => by rcases hb with h | h; exact .inl h; exact .inr h.1⟩
  refine ⟨(heap_set3 (k1g.trans H.blk) v2).2.1, ?_, hp.own.touch hset (fun b hb e => by subst e; exact hvg hb), by simp [H.len], ?_, ?_, H.big, ⟨H.ne.1, hvg, ?_⟩, ⟨.inl H.foot.1, .inl H.foot.2.1, ?_⟩, ?_⟩
  · rw [heap_setCell_other _ _ _ _ (Ne.symm H.ne.1)]; exact k1l.trans H.las
  · intro k hk hk'
    by_cases hlt : k < ws.length
    · have hlt' : k < d.waits.length := by rw [← H.len]; exact hlt
      obtain ⟨e1, e2, e3⟩ := H.each k hlt hlt'
      rw [List.getElem_append_left hlt, List.getElem_append_left hlt']
      have e4 := (((ownB _ _ _ _).2 e2).stay hb).touch hp.touch (fun b hb => (e3 b hb).2.2.2)
      refine ⟨e1, (ownB _ _ _ _).1 (e4.touch hset (fun b hb => (e3 b hb).2.1)), fun b hb => ⟨.inl (e3 b hb).1, (e3 b hb).2.1, (e3 b hb).2.2.1, fun e => ?_⟩⟩
      rcases hp.blk b e with h | h
      · exact (e3 b hb).2.2.2 h
      · have := (H.low _ (e3 b hb).1).2; omega
    · have ek : k = ws.length := by simp at hk; omega
      subst ek
      have ek2 : ws.length = d.waits.length := H.len
      rw [List.getElem_append_right (Nat.le_refl _), List.getElem_append_right (by omega)]
      simp only [ek2, Nat.sub_self, List.getElem_cons_zero]
      have hlt := own_lt ((ownB _ _ _ _).2 ho)
      have hne : ∀ b, (Value.slice a1 n1 k1).ownBlock = some b → vw.ownBlock ≠ some b := fun b hb e => by
        have h1 := (hlt b hb).1
        have h2 := (H.low _ (H.foot.2.2 b e)).2
        omega
      refine ⟨trivial, (ownB _ _ _ _).1 (((((ownB _ _ _ _).2 ho).base hBw).touch hp.touch hne).touch hset (fun b hb e => ?_)), fun b hb => ?_⟩
      · have := (hlt b hb).1; omega
      · have h1 := hlt b hb
        refine ⟨.inr ⟨h1.1, by omega⟩, by omega, by omega, fun e => ?_⟩
        rcases hp.blk b e with h | h
        · exact hne b hb h
        · omega
  · intro x hx
    rcases List.mem_append.1 hx with h | h
    · exact H.fit x h
    · simp at h; subst h; exact hm
  · intro e
    rcases hp.blk gl e with h | h
    · exact H.ne.2.2 h
    · omega
  · intro b e
    rcases hp.blk b e with h | h
    · exact .inl (H.foot.2.2 b h)
    · exact .inr ⟨by omega, (own_lt hp.own b e).2⟩
  · rintro b (h | h)
    · have := H.low b h
      exact ⟨this.1, by simp; omega⟩
    · exact ⟨by omega, by simp; omega⟩

end Go.Proofs.Ytkkailggpfmgaaa
