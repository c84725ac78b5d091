/- AgentMay. -/
import Derived.Test.YtiilhfmmclhflaaAgentLaws
namespace Go.Proofs.Ytiilhfmmclhflaa
set_option linter.unusedVariables false
set_option linter.unusedSimpArgs false
open Go.RowKit
structure MAct where
  kind : Int
  now : Int
  m : Msg
def MAct.cs (x : MAct) : List Value := [.int .i64 x.kind, .int .i64 x.now, .int .i64 x.m.node, .int .i64 x.m.kind, .int .i64 x.m.term, .int .i64 x.m.gen, .int .i64 x.m.job, .int .i64 x.m.inc, .int .i64 x.m.version, .int .i64 x.m.epoch, .int .i64 x.m.until_, .int .i64 x.m.mode, .int .i64 x.m.work]
def eMA : Elt MAct := { T := 63, E := 67, s := 13, byt := 104, z := .agg #[.int .i64 0, .int .i64 0, .int .i64 0, .int .i64 0, .int .i64 0, .int .i64 0, .int .i64 0, .int .i64 0, .int .i64 0, .int .i64 0, .int .i64 0, .int .i64 0, .int .i64 0], enc := MAct.cs }
theorem eMAok : eMA.Ok := ⟨fun _ => rfl, fun x u hu => by
  simp only [eMA, MAct.cs, List.mem_cons, List.not_mem_nil, or_false] at hu
  rcases hu with rfl | rfl | rfl | rfl | rfl | rfl | rfl | rfl | rfl | rfl | rfl | rfl | rfl <;> rfl, by decide, by kernel_rfl, by kernel_rfl, by rfl⟩
theorem MAct.conv {H : Type} {enc : TypeId × Value → H} {w : World} {base : Nat} {spare : Nat → Bool} {held : Bool} (fuel : Nat) (cs : List Value) (x : DataW H × List MemPlace) (hl : cs.length = eMA.s)
    (h : DataW.trod enc Try.prog w base spare held fuel eMA.E cs = some x) : ∃ y : MAct, cs = eMA.enc y ∧ True := by
  have hC : Try.prog.cellsOf eMA.E = 13 := by kernel_rfl
  obtain ⟨vs, rfl, hr⟩ := open_leaves 3 (ks := [.int, .int, .int, .int, .int, .int, .int, .int, .int, .int, .int, .int, .int]) (by kernel_rfl) (hl.trans hC.symm) hC h
  obtain ⟨a1, _, rfl, _, hr⟩ := hr.int
  obtain ⟨a2, _, rfl, _, hr⟩ := hr.int
  obtain ⟨a3, _, rfl, _, hr⟩ := hr.int
  obtain ⟨a4, _, rfl, _, hr⟩ := hr.int
  obtain ⟨a5, _, rfl, _, hr⟩ := hr.int
  obtain ⟨a6, _, rfl, _, hr⟩ := hr.int
  obtain ⟨a7, _, rfl, _, hr⟩ := hr.int
  obtain ⟨a8, _, rfl, _, hr⟩ := hr.int
  obtain ⟨a9, _, rfl, _, hr⟩ := hr.int
  obtain ⟨a10, _, rfl, _, hr⟩ := hr.int
  obtain ⟨a11, _, rfl, _, hr⟩ := hr.int
  obtain ⟨a12, _, rfl, _, hr⟩ := hr.int
  obtain ⟨a13, _, rfl, _, hr⟩ := hr.int
  obtain rfl := hr.nil
  exact ⟨⟨a1, a2, ⟨a3, a4, a5, a6, a7, a8, a9, a10, a11, a12, a13⟩⟩, rfl, trivial⟩
def MAt (w : World) (A : Addr) (x : MAct) : Prop := w.cell? A = some (.int .i64 x.kind) ∧ w.cell? { block := A.block, off := A.off + 1 } = some (.int .i64 x.now) ∧ w.cell? { block := A.block, off := A.off + 2 } = some (.int .i64 x.m.node) ∧ w.cell? { block := A.block, off := A.off + 3 } = some (.int .i64 x.m.kind) ∧ w.cell? { block := A.block, off := A.off + 4 } = some (.int .i64 x.m.term) ∧ w.cell? { block := A.block, off := A.off + 5 } = some (.int .i64 x.m.gen) ∧ w.cell? { block := A.block, off := A.off + 6 } = some (.int .i64 x.m.job) ∧ w.cell? { block := A.block, off := A.off + 7 } = some (.int .i64 x.m.inc) ∧ w.cell? { block := A.block, off := A.off + 8 } = some (.int .i64 x.m.version) ∧ w.cell? { block := A.block, off := A.off + 9 } = some (.int .i64 x.m.epoch) ∧ w.cell? { block := A.block, off := A.off + 10 } = some (.int .i64 x.m.until_) ∧ w.cell? { block := A.block, off := A.off + 11 } = some (.int .i64 x.m.mode) ∧ w.cell? { block := A.block, off := A.off + 12 } = some (.int .i64 x.m.work)
theorem AtG.mAt {w : World} {a : Option Addr} {l : List MAct} (h : AtG eMA w a l) {k : Nat} (hk : k < l.length) : MAt w (adr a (k * 13)) l[k] := by
  have hj : ∀ j, j < 13 → w.cell? ((adr a (k * 13)).add j) = (eMA.enc l[k])[j]? := by
    intro j hj
    have := (h k hk).2 j hj
    rw [show eMA.s = 13 from rfl, ← adr_two] at this
    exact this
  exact ⟨hj 0 (by decide), hj 1 (by decide), hj 2 (by decide), hj 3 (by decide), hj 4 (by decide), hj 5 (by decide), hj 6 (by decide), hj 7 (by decide), hj 8 (by decide), hj 9 (by decide), hj 10 (by decide), hj 11 (by decide), hj 12 (by decide)⟩
theorem idxMA (a : Option Addr) (n cap : Nat) (hn : 0 < n → a.isSome = true) (k : Nat) (hk : k < n) (wx : World) :
    (Instr.indexAt 63 (.slice a n cap) (.int .i64 (k : Int))).run Try.prog wx = .ok (.pointer (some (adr a (k * 13)))) wx := idxG eMAok a n cap hn k k rfl hk wx
def MAct.okP (x : MAct) : Prop := x.m.right = true ∧ 0 ≤ x.now ∧ x.now ≤ 1000000
def FewPost (l : List MAct) (w : World) (e : Ending) (w' : World) : Prop := ∃ b, e = .returned (.bool b) ∧ (b = true → l.length ≤ 60 ∧ ∀ i (h : i < l.length), l[i].okP) ∧ Below w.heap.size w w'
set_option maxRecDepth 10000 in
set_option maxHeartbeats 3200000 in
theorem few13_any (a : Option Addr) (l : List MAct) (n cap : Nat) (w : World) (hn : l.length = n) (hm : n ≤ maxLen) (hA : AtG eMA w a l) :
    Calls Try.prog 38 #[.slice a n cap] w (FewPost l w) := by
  unfold maxLen at hm
  have HA := hid hA
  have HN := hid hn
  have S0 := St.start w
  clear hA hn
  by_cases q : 60 < n
  · go_enter Try.func38, Try.ntmps38
    go_wp2
    go_ret
    exact ⟨_, rfl, (fun h => by cases h), S0.fin⟩
  · go_enter Try.func38, Try.ntmps38
    go_wp2_with fail
    go_loopw [3] (fun q wr => ∃ k : Nat, k ≤ n ∧ q = .int .i64 k ∧ (∀ i (h : i < l.length), i < k → l[i].okP) ∧ St w wr []) (fun q _ => n - (intOf q).toNat)
    case atStart => exact ⟨0, Nat.zero_le _, rfl, fun i h hi => by omega, S0⟩
    case round =>
      obtain ⟨k, hk, rfl, hall, Sk⟩ := hrel
      have HAll := hid hall
      clear hall S0
      by_cases hlt : k < n
      case neg =>
        have hE : Hid (l.length ≤ 60 ∧ ∀ i (h : i < l.length), l[i].okP) := by
          rw [Hid]; exact ⟨by rw [HN.out]; omega, fun i h => HAll.out i h (by rw [HN.out] at h; omega)⟩
        go_wp2
        go_ret
        exact ⟨_, rfl, fun _ => hE.out, Sk.fin⟩
      have hkl : k < l.length := by rw [HN.out]; exact hlt
      have i0 := fun wx => idxMA a n cap (fun h => HA.out.ok (by rw [HN.out]; exact h)) k hlt wx
      have hAk := (HA.out.all eMAok Sk.fin).mAt hkl
      obtain ⟨x0, x1, x2, x3, x4, x5, x6, x7, x8, x9, x10, x11, x12⟩ := hAk
      have hall2 : Hid (l[k].okP → ∀ i (h : i < l.length), i < k + 1 → l[i].okP) := by
        intro h i hi hik
        by_cases e : i = k
        · subst e; exact h
        · exact HAll.out i hi (by omega)
      have HX : Hid (∀ w', Below w.heap.size w w' → MAt w' (adr a (k * 13)) l[k]) := fun w' hb => (HA.out.all eMAok hb).mAt hkl
      generalize l[k] = x at *
      generalize adr a (k * 13) = A at *
      go_wp2_with fail
      refine (rright_any x.m _).mono ?_
      rintro e w2 ⟨rfl, hb2⟩
      have S2 := Sk.grow hb2
      clear x0 x1 x2 x3 x4 x5 x6 x7 x8 x9 x10 x11 x12 hb2 Sk
      obtain ⟨x0, x1, x2, x3, x4, x5, x6, x7, x8, x9, x10, x11, x12⟩ := HX.out _ S2.fin
      cases hr : x.m.right
      · go_wp2
        go_ret
        exact ⟨_, rfl, (fun h => by cases h), S2.fin⟩
      have HR := hid hr
      clear hr
      go_wp2
      all_goals first
        | (go_roundw
           case rel => exact ⟨k + 1, by omega, by go_num, hall2.out ⟨HR.out, by omega, by omega⟩, S2⟩
           case measure => simp [intOf]; omega)
        | (go_ret
           exact ⟨_, rfl, (fun h => by cases h), S2.fin⟩)
structure MayStep (a b : AG) (kind : Int) : Prop where
  v : b.version = a.version ∨ (a.mode = 4 ∧ kind = 1)
  t4 : b.mode = 4 → a.mode = 4 ∨ a.mode = 0
  t2 : b.mode = 2 → a.mode = 2 ∨ (a.mode = 1 ∧ a.job = b.job ∧ a.inc = b.inc)
  tm : a.term < b.term ∨ (b.term = a.term ∧ a.gen ≤ b.gen)
  up : b.mode = 0 ∨ b.up = true
  wk : 0 ≤ b.worked ∧ b.worked ≤ 1000000
structure MayInv (a : AG) : Prop where
  up : a.mode = 0 ∨ a.up = true
  wk : 0 ≤ a.worked ∧ a.worked ≤ 1000000
theorem MayStep.inv {a b : AG} {k : Int} (h : MayStep a b k) : MayInv b := ⟨h.up, h.wk⟩
theorem MayInv.same {a : AG} (h : MayInv a) (k : Int) : MayStep a a k := ⟨.inl rfl, fun h => .inl h, fun h => .inl h, .inr ⟨rfl, Int.le_refl _⟩, h.up, h.wk⟩
theorem MayInv.fail {a : AG} (h : MayInv a) (k : Int) : MayStep a (aFail a) k := ⟨.inl rfl, fun h => absurd h (by simp [aFail, aLoose]), fun h => absurd h (by simp [aFail, aLoose]), .inr ⟨rfl, Int.le_refl _⟩, .inl rfl, by simp [aFail, aLoose]⟩
theorem MayInv.back {a : AG} (h : MayInv a) (k : Int) : MayStep a (aBack a) k := ⟨.inl rfl, fun h => .inl h, fun h => .inl h, .inr ⟨rfl, Int.le_refl _⟩, .inr rfl, h.wk⟩
theorem MayInv.act {a : AG} (h : MayInv a) (now : Int) : MayStep a (aAct a now) 1 := by
  unfold aAct
  by_cases h1 : a.up = false ∨ a.mode = 0
  · rw [if_pos h1]; exact h.same 1
  · rw [if_neg h1]
    by_cases h2 : a.mode = 4
    · rw [if_pos h2]; exact ⟨.inr ⟨h2, rfl⟩, fun h => absurd h (by simp [aFail, aLoose]), fun h => absurd h (by simp [aFail, aLoose]), .inr ⟨rfl, Int.le_refl _⟩, .inl rfl, by simp [aFail, aLoose]⟩
    · rw [if_neg h2]
      by_cases h3 : a.lease ≤ now
      · rw [if_pos h3]; exact ⟨.inl rfl, fun h => absurd h (by simp [aFail, aLoose]), fun h => absurd h (by simp [aFail, aLoose]), .inr ⟨rfl, Int.le_refl _⟩, .inl rfl, by simp [aFail, aLoose]⟩
      · rw [if_neg h3]
        by_cases h4 : a.mode = 2
        · rw [if_pos h4]
          have := h.wk
          exact ⟨.inl rfl, fun h => .inl h, fun h => .inl h, .inr ⟨rfl, Int.le_refl _⟩, h.up, by dsimp only; omega, by dsimp only; omega⟩
        · rw [if_neg h4]; exact h.same 1
def TakeA (a : AG) (r : Option (AG × Option SS)) : AG :=
  match r with
  | some x => x.1
  | none => a
theorem oOrder_may (a : AG) (m : Msg) (now : Int) (o : Option SS) (hr : m.right = true) (hu : a.up = true) (hw : 0 ≤ a.worked ∧ a.worked ≤ 1000000) :
    ((oOrder a m now o).1.mode = 4 → a.mode = 4 ∨ a.mode = 0) ∧ ((oOrder a m now o).1.mode = 2 → a.mode = 2 ∨ (a.mode = 1 ∧ a.job = (oOrder a m now o).1.job ∧ a.inc = (oOrder a m now o).1.inc)) ∧ 0 ≤ (oOrder a m now o).1.worked ∧ (oOrder a m now o).1.worked ≤ 1000000 := by
  have hwork : 0 ≤ m.work ∧ m.work ≤ 1000000 := by
    unfold Msg.right Msg.nums at hr
    simp [numOk] at hr
    omega
  unfold oOrder
  by_cases k1 : m.kind = 1
  · rw [if_pos k1]
    unfold oRest
    by_cases h : a.mode = 4
    · rw [if_pos h]; exact ⟨fun _ => .inl h, fun h2 => .inl h2, hw⟩
    · rw [if_neg h]; exact ⟨fun h => absurd h (by simp [aLoose]), fun h => absurd h (by simp [aLoose]), by simp [aLoose]⟩
  · rw [if_neg k1]
    by_cases k2 : m.kind = 2
    · rw [if_pos k2]
      unfold oTake
      split
      · exact ⟨fun h => .inl h, fun h => .inl h, hw⟩
      · split
        · exact ⟨fun h => absurd h (by simp), fun h => absurd h (by simp), hw⟩
        · exact ⟨fun h => .inl h, fun h => .inl h, hw⟩
    · rw [if_neg k2]
      by_cases k3 : m.kind = 3
      · rw [if_pos k3]
        unfold oWork
        split
        · exact ⟨fun h => .inl h, fun h => .inl h, hw⟩
        · split
          · rename_i h
            simp only [ownsJ, Bool.and_eq_true, beq_iff_eq] at h
            exact ⟨fun h => absurd h (by simp), fun _ => .inr ⟨h.1, rfl, rfl⟩, hwork⟩
          · exact ⟨fun h => .inl h, fun h => .inl h, hw⟩
      · rw [if_neg k3]
        by_cases k4 : m.kind = 4
        · rw [if_pos k4]
          unfold oSave
          split
          · split
            · dsimp only
              split
              · exact ⟨fun h => absurd h (by simp), fun h => absurd h (by simp), hw⟩
              · exact ⟨fun h => .inl h, fun h => .inl h, hw⟩
            · exact ⟨fun h => absurd h (by simp), fun h => absurd h (by simp), hw⟩
          · exact ⟨fun h => .inl h, fun h => .inl h, hw⟩
        · rw [if_neg k4]
          unfold oTurn
          split
          · rename_i h
            exact ⟨fun _ => .inr h.1, fun h => absurd h (by simp), hw⟩
          · exact ⟨fun h => .inl h, fun h => .inl h, hw⟩
theorem MayInv.take {a : AG} (h : MayInv a) (m : Msg) (now : Int) (o : Option SS) (hr : m.right = true) (k : Int) : MayStep a (TakeA a (aTake a m now o)) k := by
  unfold aTake
  by_cases ht : takesB a m = true
  · rw [if_pos ht]
    have hu := takesB_up ht
    obtain ⟨k1, k2, k3, k4⟩ := oOrder_keeps { a with term := m.term, gen := m.gen } m now o
    obtain ⟨j1, j2, j3⟩ := oOrder_may { a with term := m.term, gen := m.gen } m now o hr hu h.wk
    simp only [takesB, Bool.and_eq_true, Bool.not_eq_true', decide_eq_true_eq, Bool.and_eq_false_iff, decide_eq_false_iff_not] at ht
    obtain ⟨t1, t2, t3, t4, t5⟩ := ht
    refine ⟨.inl k4, j1, j2, ?_, .inr (k3.trans hu), j3⟩
    show a.term < (oOrder _ m now o).1.term ∨ ((oOrder _ m now o).1.term = a.term ∧ a.gen ≤ (oOrder _ m now o).1.gen)
    rw [k1, k2]
    show a.term < m.term ∨ (m.term = a.term ∧ a.gen ≤ m.gen)
    by_cases e : m.term = a.term
    · exact .inr ⟨e, by rcases t5 with t5 | t5; exact absurd e t5; omega⟩
    · exact .inl (by omega)
  · rw [if_neg ht]; exact h.same k
theorem oWrites_take (a : AG) (m : Msg) (now : Int) (s : SS) : ∃ s', TakeO (some s) (aTake a m now (some s)) = some s' ∧ s'.writes ≤ s.writes + 1 := by
  unfold aTake
  split
  · show ∃ s', (oOrder _ m now (some s)).2 = some s' ∧ _
    unfold oOrder
    split
    · exact ⟨s, rfl, Nat.le_succ _⟩
    · split
      · exact ⟨s, rfl, Nat.le_succ _⟩
      · split
        · exact ⟨s, rfl, Nat.le_succ _⟩
        · split
          · unfold oSave
            split
            · split
              · exact ⟨_, rfl, (sStage_term s _ _ _ _).2.1⟩
              · exact ⟨s, rfl, Nat.le_succ _⟩
            · exact ⟨s, rfl, Nat.le_succ _⟩
          · exact ⟨s, rfl, Nat.le_succ _⟩
  · exact ⟨s, rfl, Nat.le_succ _⟩
end Go.Proofs.Ytiilhfmmclhflaa
