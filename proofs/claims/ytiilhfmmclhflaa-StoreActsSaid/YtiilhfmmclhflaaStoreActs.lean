/- What is done to stores. -/
import Derived.Test.YtiilhfmmclhflaaStoreLaw2
namespace Go.Proofs.Ytiilhfmmclhflaa
set_option linter.unusedVariables false
set_option linter.unusedSimpArgs false
open Go.RowKit
structure TAct where
  kind : Int
  term : Int
  job : Int
  ep : Int
  a : Option Addr
  n : Nat
  c : Nat
  b : List UInt8
def TAct.cs (x : TAct) : List Value := [.int .i64 x.kind, .int .i64 x.term, .int .i64 x.job, .int .i64 x.ep, .slice x.a x.n x.c]
def eTA : Elt TAct := { T := 35, E := 39, s := 5, byt := 56, z := .agg #[.int .i64 0, .int .i64 0, .int .i64 0, .int .i64 0, .slice none 0 0], enc := TAct.cs }
theorem eTAok : eTA.Ok := ⟨fun _ => rfl, fun x u hu => by
  simp only [eTA, TAct.cs, List.mem_cons, List.not_mem_nil, or_false] at hu
  rcases hu with rfl | rfl | rfl | rfl | rfl <;> rfl, by decide, by kernel_rfl, by kernel_rfl, by rfl⟩
structure TAct.Ok (w : World) (x : TAct) : Prop where
  len : x.b.length = x.n
  le : x.n ≤ x.c
  big : x.c ≤ maxLen
  nil : x.a = none → x.c = 0
  isAt : At w x.a x.b
theorem TAct.conv {H : Type} {enc : TypeId × Value → H} {w : World} {base : Nat} {spare : Nat → Bool} {held : Bool} (fuel : Nat) (cs : List Value) (x : DataW H × List MemPlace) (hl : cs.length = eTA.s)
    (h : DataW.trod enc Try.prog w base spare held fuel eTA.E cs = some x) : ∃ y : TAct, cs = eTA.enc y ∧ y.Ok w := by
  have hC : Try.prog.cellsOf eTA.E = 5 := by kernel_rfl
  obtain ⟨vs, rfl, hr⟩ := open_leaves 2 (ks := [.int, .int, .int, .int, .bytes]) (by kernel_rfl) (hl.trans hC.symm) hC h
  obtain ⟨a1, _, rfl, _, hr⟩ := hr.int
  obtain ⟨a2, _, rfl, _, hr⟩ := hr.int
  obtain ⟨a3, _, rfl, _, hr⟩ := hr.int
  obtain ⟨a4, _, rfl, _, hr⟩ := hr.int
  obtain ⟨ad, n, c, l, _, rfl, ⟨h1, h2, h3, h4, h5⟩, hr⟩ := hr.bytes
  obtain rfl := hr.nil
  exact ⟨⟨a1, a2, a3, a4, ad, n, c, l⟩, rfl, h1, h2, h3, h4, h5⟩
def TAt (w : World) (A : Addr) (x : TAct) : Prop := w.cell? A = some (.int .i64 x.kind) ∧ w.cell? { block := A.block, off := A.off + 1 } = some (.int .i64 x.term) ∧ w.cell? { block := A.block, off := A.off + 2 } = some (.int .i64 x.job) ∧ w.cell? { block := A.block, off := A.off + 3 } = some (.int .i64 x.ep) ∧ w.cell? { block := A.block, off := A.off + 4 } = some (.slice x.a x.n x.c)
theorem AtG.tAt {w : World} {a : Option Addr} {l : List TAct} (h : AtG eTA w a l) {k : Nat} (hk : k < l.length) : TAt w (adr a (k * 5)) l[k] := by
  have hj : ∀ j, j < 5 → w.cell? ((adr a (k * 5)).add j) = (eTA.enc l[k])[j]? := by
    intro j hj
    have := (h k hk).2 j hj
    rw [show eTA.s = 5 from rfl, ← adr_two] at this
    exact this
  exact ⟨hj 0 (by decide), hj 1 (by decide), hj 2 (by decide), hj 3 (by decide), hj 4 (by decide)⟩
theorem idxTA (a : Option Addr) (n cap : Nat) (hn : 0 < n → a.isSome = true) (k : Nat) (hk : k < n) (wx : World) :
    (Instr.indexAt 35 (.slice a n cap) (.int .i64 (k : Int))).run Try.prog wx = .ok (.pointer (some (adr a (k * 5)))) wx := idxG eTAok a n cap hn k k rfl hk wx
theorem St.tact {w0 w : World} {l : List Thing} (S : St w0 w l) (k : Nat) {g : Nat} {T : TypeId} {x : TAct} (h : l[k]? = some (cellsT g T x.cs)) :
    w.cell? ⟨g, 0, none⟩ = some (.int .i64 x.kind) ∧ w.cell? ⟨g, 1, none⟩ = some (.int .i64 x.term) ∧ w.cell? ⟨g, 2, none⟩ = some (.int .i64 x.job) ∧ w.cell? ⟨g, 3, none⟩ = some (.int .i64 x.ep) ∧ w.cell? ⟨g, 4, none⟩ = some (.slice x.a x.n x.c) :=
  ⟨S.cell k h 0 rfl, S.cell k h 1 rfl, S.cell k h 2 rfl, S.cell k h 3 rfl, S.cell k h 4 rfl⟩
theorem newAtG {w0 w : World} {l : List Thing} (S : St w0 w l) (T : TypeId) (cs : Array Value) (g : Nat) (hg : w.heap.size = g) : St w0 (w.alloc (.cells cs T)) (l ++ [cellsT g T cs.toList]) := hg ▸ S.newCells T cs
def few11 (l : List TAct) : Bool := decide (l.length ≤ 60) && l.all fun x => decide (x.n ≤ 200)
set_option maxRecDepth 10000 in
theorem few11_any (a : Option Addr) (l : List TAct) (n cap : Nat) (w : World) (hn : l.length = n) (hm : n ≤ maxLen) (hA : AtG eTA w a l) :
    Calls Try.prog 22 #[.slice a n cap] w fun e w' => e = .returned (.bool (few11 l)) ∧ w = w' := by
  unfold maxLen at hm
  have HA := hid hA
  have HN := hid hn
  clear hA hn
  by_cases q : 60 < n
  · have e : few11 l = false := by unfold few11; rw [HN.out]; simp; omega
    rw [e]
    clear e
    go_enter Try.func22, Try.ntmps22
    go_wp2
    go_ret
    exact ⟨rfl, rfl⟩
  · go_enter Try.func22, Try.ntmps22
    go_wp2_with fail
    go_loop [3] (fun q => ∃ k : Nat, k ≤ n ∧ q = .int .i64 k ∧ ∀ i (h : i < l.length), i < k → l[i].n ≤ 200) (fun q => n - (intOf q).toNat)
    case atStart => exact ⟨0, Nat.zero_le _, rfl, fun i h hi => by omega⟩
    case round =>
      obtain ⟨k, hk, rfl, hall⟩ := hrel
      have HAll := hid hall
      clear hall
      by_cases hlt : k < n
      · have hkl : k < l.length := by rw [HN.out]; exact hlt
        have i0 := fun wx => idxTA a n cap (fun h => HA.out.ok (by rw [HN.out]; exact h)) k hlt wx
        obtain ⟨x0, x1, x2, x3, x4⟩ := HA.out.tAt hkl
        have HX : Hid (l[k].n = l[k].n) := rfl
        have hall2 : Hid (l[k].n ≤ 200 → ∀ i (h : i < l.length), i < k + 1 → l[i].n ≤ 200) := by
          intro h i hi hik
          by_cases e : i = k
          · subst e; exact h
          · exact HAll.out i hi (by omega)
        have hall3 : Hid (¬ l[k].n ≤ 200 → few11 l = false) := by
          intro h
          unfold few11
          rw [Bool.and_eq_false_iff]
          right
          rw [List.all_eq_false]
          exact ⟨l[k], List.getElem_mem _, by simpa using h⟩
        generalize l[k] = x at *
        generalize adr a (k * 5) = A at *
        by_cases h3 : 200 < x.n
        · go_wp2
          go_ret
          rw [hall3.out (by omega)]
          exact ⟨rfl, rfl⟩
        · go_wp2
          go_round
          case rel => exact ⟨k + 1, by omega, by go_num, hall2.out (by omega)⟩
          case measure => simp [intOf]; omega
      · have e : Hid (few11 l = true) := by
          rw [Hid, few11, Bool.and_eq_true]
          refine ⟨by rw [HN.out]; simp; omega, ?_⟩
          rw [List.all_eq_true]
          intro x hx
          obtain ⟨i, hi, rfl⟩ := List.getElem_of_mem hx
          have := HAll.out i hi (by have := HN.out; omega)
          simpa using this
        go_wp2
        go_ret
        rw [e.out]
        exact ⟨rfl, rfl⟩

/-- What is staged has bytes. -/
def SS.Full (s : SS) : Prop := ∀ x ∈ s.js, 1 ≤ x.se → 1 ≤ x.sd.length
theorem mem_put {s : SS} {n : Int} {y : PS} {P : PS → Prop} (h : ∀ x ∈ s.js, P x) (hy : P y) : ∀ x ∈ (s.put n y).js, P x := fun x hx => (List.mem_or_eq_of_mem_set hx).elim (h x) (fun e => e ▸ hy)
theorem SS.Full.stage {s : SS} (h : s.Full) (t j e : Int) (b : List UInt8) : (sStage s t j e b).2.Full := by
  unfold sStage
  split
  · exact h
  split
  · exact h
  · rename_i hb
    split
    · exact h
    split
    · exact h
    split
    · exact h
    · exact mem_put h (fun _ => by show 1 ≤ b.length; omega)
theorem SS.Full.new (room : Int) : (SS.new room).Full := by
  intro x hx
  rw [List.eq_of_mem_replicate hx]
  intro h; cases h
theorem sStage_term (s : SS) (t j e : Int) (b : List UInt8) : (sStage s t j e b).2.term = s.term ∧ (sStage s t j e b).2.writes ≤ s.writes + 1 ∧ (sStage s t j e b).2.room = s.room := by
  unfold sStage
  (repeat' split) <;> simp [SS.put]
theorem mem_le_sum : ∀ {l : List Nat} {x : Nat}, x ∈ l → x ≤ l.sum
  | y :: l, x, h => by
    rw [List.sum_cons]
    rcases List.mem_cons.1 h with h | h
    · omega
    · have := mem_le_sum h; omega
theorem usedP_pos {s : SS} {x : PS} (h : x ∈ s.js) (h1 : 1 ≤ x.sd.length) : 0 < usedP s.js := by
  unfold usedP
  have : x.cd.length + x.sd.length ∈ s.js.map fun x => x.cd.length + x.sd.length := List.mem_map_of_mem h
  have := mem_le_sum this
  omega
/-- What was staged already. -/
theorem sStage_same {s : SS} (hl : s.js.length = 25) (h : s.Full) {t j e : Int} {b : List UInt8} (h0 : (sStage s t j e b).1 = 0) (hw : (sStage s t j e b).2.writes = s.writes) : 0 < usedP (sStage s t j e b).2.js := by
  unfold sStage at h0 hw ⊢
  split at h0
  · simp at h0
  · rename_i h1
    rw [if_neg h1] at hw ⊢
    split at h0
    · simp at h0
    · rename_i h2
      rw [if_neg h2] at hw ⊢
      split at h0
      · simp at h0
      · rename_i h3
        rw [if_neg h3] at hw ⊢
        split at h0
        · rename_i h4
          rw [if_pos h4] at hw ⊢
          have hj : jobOk j := by
            rcases Decidable.em (jobOk j) with q | q
            · exact q
            · exact absurd (.inl q) h2
          have hlt : j.toNat < s.js.length := by unfold jobOk at hj; omega
          have hx : s.job j = s.js[j.toNat] := by unfold SS.job; simp [List.getD, hlt]
          refine usedP_pos (List.getElem_mem hlt) (h _ (List.getElem_mem hlt) ?_)
          rw [← hx, ← h4]
          omega
        · rename_i h4
          rw [if_neg h4] at hw
          split at hw
          · rename_i h5
            rw [if_pos h5] at h0
            simp at h0
          · simp [SS.put] at hw

end Go.Proofs.Ytiilhfmmclhflaa
