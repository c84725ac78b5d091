/- States: nodes and jobs, as slices that come in; a state opened. -/
import Derived.Test.YtjfbmgndekfglaaDoorNetLaws
import Derived.Test.YtjfbmgndekfglaaDoorOpens
namespace Go.Proofs.YtjfbmgndekfglaaDoor
set_option linter.unusedVariables false
set_option linter.unusedSimpArgs false
open Go.RowKit
structure ND where
  up : Bool
  cordon : Bool
  moving : Bool
  version : Int
  job : Int
def ND.cs (x : ND) : List Value := [.bool x.up, .bool x.cordon, .bool x.moving, .int .i64 x.version, .int .i64 x.job]
def eND : Elt ND := { T := 24, E := 39, s := 5, byt := 24, z := .agg #[.bool false, .bool false, .bool false, .int .i64 0, .int .i64 0], enc := ND.cs }
theorem eNDok : eND.Ok := ⟨fun _ => rfl, fun x u hu => by
  simp only [eND, ND.cs, List.mem_cons, List.not_mem_nil, or_false] at hu
  rcases hu with rfl | rfl | rfl | rfl | rfl <;> rfl, by decide, by kernel_rfl, by kernel_rfl, by rfl⟩
structure JB where
  queue : Int
  prio : Int
  lo : Int
  hi : Int
  work : Int
  pin : Int
  phase : Int
  inc : Int
  nodes : Int
  since : Int
  until_ : Int
  epoch : Int
def JB.cs (x : JB) : List Value := [.int .i64 x.queue, .int .i64 x.prio, .int .i64 x.lo, .int .i64 x.hi, .int .i64 x.work, .int .i64 x.pin, .int .i64 x.phase, .int .i64 x.inc, .int .i64 x.nodes, .int .i64 x.since, .int .i64 x.until_, .int .i64 x.epoch]
def eJB : Elt JB := { T := 25, E := 51, s := 12, byt := 96, z := .agg #[.int .i64 0, .int .i64 0, .int .i64 0, .int .i64 0, .int .i64 0, .int .i64 0, .int .i64 0, .int .i64 0, .int .i64 0, .int .i64 0, .int .i64 0, .int .i64 0], enc := JB.cs }
theorem eJBok : eJB.Ok := ⟨fun _ => rfl, fun x u hu => by
  simp only [eJB, JB.cs, List.mem_cons, List.not_mem_nil, or_false] at hu
  rcases hu with rfl | rfl | rfl | rfl | rfl | rfl | rfl | rfl | rfl | rfl | rfl | rfl <;> rfl, by decide, by kernel_rfl, by kernel_rfl, by rfl⟩
theorem ND.conv {H : Type} {enc : TypeId × Value → H} {w : World} {base : Nat} {spare : Nat → Bool} {held : Bool} (fuel : Nat) (cs : List Value) (x : DataW H × List MemPlace) (hl : cs.length = eND.s)
    (h : DataW.trod enc Tryd.prog w base spare held fuel eND.E cs = some x) : ∃ y : ND, cs = eND.enc y ∧ True := by
  have hC : Tryd.prog.cellsOf eND.E = 5 := by kernel_rfl
  obtain ⟨vs, rfl, hr⟩ := open_leaves 3 (ks := [.bool, .bool, .bool, .int, .int]) (by kernel_rfl) (hl.trans hC.symm) hC h
  obtain ⟨a1, u1, e1, hr1⟩ := hr.bool
  subst e1
  obtain ⟨a2, u2, e2, hr2⟩ := hr1.bool
  subst e2
  obtain ⟨a3, u3, e3, hr3⟩ := hr2.bool
  subst e3
  obtain ⟨a4, _, rfl, _, hr4⟩ := hr3.int
  obtain ⟨a5, _, rfl, _, hr5⟩ := hr4.int
  obtain rfl := hr5.nil
  exact ⟨⟨a1, a2, a3, a4, a5⟩, rfl, trivial⟩
theorem JB.conv {H : Type} {enc : TypeId × Value → H} {w : World} {base : Nat} {spare : Nat → Bool} {held : Bool} (fuel : Nat) (cs : List Value) (x : DataW H × List MemPlace) (hl : cs.length = eJB.s)
    (h : DataW.trod enc Tryd.prog w base spare held fuel eJB.E cs = some x) : ∃ y : JB, cs = eJB.enc y ∧ True := by
  have hC : Tryd.prog.cellsOf eJB.E = 12 := by kernel_rfl
  obtain ⟨vs, rfl, hr⟩ := open_leaves 3 (ks := [.int, .int, .int, .int, .int, .int, .int, .int, .int, .int, .int, .int]) (by kernel_rfl) (hl.trans hC.symm) hC h
  obtain ⟨a1, _, rfl, _, hr⟩ := hr.int
  obtain ⟨a2, _, rfl, _, hr⟩ := hr.int
  obtain ⟨a3, _, rfl, _, hr⟩ := hr.int
  obtain ⟨a4, _, rfl, _, hr⟩ := hr.int
  obtain ⟨a5, _, rfl, _, hr⟩ := hr.int
  obtain ⟨a6, _, rfl, _, hr⟩ := hr.int
  obtain ⟨a7, _, rfl, _, hr⟩ := hr.int
  obtain ⟨a8, _, rfl, _, hr⟩ := hr.int
  obtain ⟨a9, _, rfl, _, hr⟩ := hr.int
  obtain ⟨a10, _, rfl, _, hr⟩ := hr.int
  obtain ⟨a11, _, rfl, _, hr⟩ := hr.int
  obtain ⟨a12, _, rfl, _, hr⟩ := hr.int
  obtain rfl := hr.nil
  exact ⟨⟨a1, a2, a3, a4, a5, a6, a7, a8, a9, a10, a11, a12⟩, rfl, trivial⟩
def NdAt (w : World) (A : Addr) (x : ND) : Prop := w.cell? A = some (.bool x.up) ∧ w.cell? { block := A.block, off := A.off + 1 } = some (.bool x.cordon) ∧ w.cell? { block := A.block, off := A.off + 2 } = some (.bool x.moving) ∧ w.cell? { block := A.block, off := A.off + 3 } = some (.int .i64 x.version) ∧ w.cell? { block := A.block, off := A.off + 4 } = some (.int .i64 x.job)
theorem AtG.ndAt {w : World} {a : Option Addr} {l : List ND} (h : AtG eND w a l) {k : Nat} (hk : k < l.length) : NdAt w (adr a (k * 5)) l[k] := by
  have hj : ∀ j, j < 5 → w.cell? ((adr a (k * 5)).add j) = (eND.enc l[k])[j]? := by
    intro j hj
    have := (h k hk).2 j hj
    rw [show eND.s = 5 from rfl, ← adr_two] at this
    exact this
  exact ⟨hj 0 (by decide), hj 1 (by decide), hj 2 (by decide), hj 3 (by decide), hj 4 (by decide)⟩
theorem idxND (a : Option Addr) (n cap : Nat) (hn : 0 < n → a.isSome = true) (k : Nat) (hk : k < n) (wx : World) :
    (Instr.indexAt 24 (.slice a n cap) (.int .i64 (k : Int))).run Tryd.prog wx = .ok (.pointer (some (adr a (k * 5)))) wx := idxG eNDok a n cap hn k k rfl hk wx
theorem idxNDI (a : Option Addr) (n cap : Nat) (hn : 0 < n → a.isSome = true) (k : Nat) (i : Int) (hi : i = (k : Int)) (hk : k < n) (wx : World) :
    (Instr.indexAt 24 (.slice a n cap) (.int .i64 i)).run Tryd.prog wx = .ok (.pointer (some (adr a (k * 5)))) wx := idxG eNDok a n cap hn k i hi hk wx
def JbAt (w : World) (A : Addr) (x : JB) : Prop := w.cell? A = some (.int .i64 x.queue) ∧ w.cell? { block := A.block, off := A.off + 1 } = some (.int .i64 x.prio) ∧ w.cell? { block := A.block, off := A.off + 2 } = some (.int .i64 x.lo) ∧ w.cell? { block := A.block, off := A.off + 3 } = some (.int .i64 x.hi) ∧ w.cell? { block := A.block, off := A.off + 4 } = some (.int .i64 x.work) ∧ w.cell? { block := A.block, off := A.off + 5 } = some (.int .i64 x.pin) ∧ w.cell? { block := A.block, off := A.off + 6 } = some (.int .i64 x.phase) ∧ w.cell? { block := A.block, off := A.off + 7 } = some (.int .i64 x.inc) ∧ w.cell? { block := A.block, off := A.off + 8 } = some (.int .i64 x.nodes) ∧ w.cell? { block := A.block, off := A.off + 9 } = some (.int .i64 x.since) ∧ w.cell? { block := A.block, off := A.off + 10 } = some (.int .i64 x.until_) ∧ w.cell? { block := A.block, off := A.off + 11 } = some (.int .i64 x.epoch)
theorem AtG.jbAt {w : World} {a : Option Addr} {l : List JB} (h : AtG eJB w a l) {k : Nat} (hk : k < l.length) : JbAt w (adr a (k * 12)) l[k] := by
  have hj : ∀ j, j < 12 → w.cell? ((adr a (k * 12)).add j) = (eJB.enc l[k])[j]? := by
    intro j hj
    have := (h k hk).2 j hj
    rw [show eJB.s = 12 from rfl, ← adr_two] at this
    exact this
  exact ⟨hj 0 (by decide), hj 1 (by decide), hj 2 (by decide), hj 3 (by decide), hj 4 (by decide), hj 5 (by decide), hj 6 (by decide), hj 7 (by decide), hj 8 (by decide), hj 9 (by decide), hj 10 (by decide), hj 11 (by decide)⟩
theorem idxJB (a : Option Addr) (n cap : Nat) (hn : 0 < n → a.isSome = true) (k : Nat) (i : Int) (hi : i = (k : Int)) (hk : k < n) (wx : World) :
    (Instr.indexAt 25 (.slice a n cap) (.int .i64 i)).run Tryd.prog wx = .ok (.pointer (some (adr a (k * 12)))) wx := idxG eJBok a n cap hn k i hi hk wx
structure STA where
  na : Option Addr
  nn : Nat
  nc : Nat
  N : List ND
  ja : Option Addr
  jn : Nat
  jc : Nat
  J : List JB
  goal : Int
  prior : Int
  mode : Int
  term : Int
def STA.cs (s : STA) : List Value := [.slice s.na s.nn s.nc, .slice s.ja s.jn s.jc, .int .i64 s.goal, .int .i64 s.prior, .int .i64 s.mode, .int .i64 s.term]
structure STA.At (s : STA) (w : World) : Prop where
  n : AtG eND w s.na s.N
  j : AtG eJB w s.ja s.J
  nn : s.N.length = s.nn
  jn : s.J.length = s.jn
  nm : s.nn ≤ maxLen
  jm : s.jn ≤ maxLen
theorem STA.At.all {s : STA} {w w' : World} (h : s.At w) (hb : Below w.heap.size w w') : s.At w' := ⟨h.n.all eNDok hb, h.j.all eJBok hb, h.nn, h.jn, h.nm, h.jm⟩
theorem STA.conv {H : Type} {enc : TypeId × Value → H} {w : World} {base : Nat} {spare : Nat → Bool} {held : Bool} (fuel : Nat) (cs : List Value) (x : DataW H × List MemPlace) (hl : cs.length = Tryd.prog.cellsOf 27)
    (h : DataW.trod enc Tryd.prog w base spare held fuel 27 cs = some x) : ∃ y : STA, cs = y.cs ∧ y.At w := by
  have hC : Tryd.prog.cellsOf 27 = 6 := by kernel_rfl
  obtain ⟨vs, rfl, hr⟩ := open_leaves 3 (ks := [.other 24, .other 25, .int, .int, .int, .int]) (by kernel_rfl) hl hC h
  obtain ⟨a1, _, rfl, ⟨f1, x1, hx1⟩, hr⟩ := hr.other
  obtain ⟨a2, _, rfl, ⟨f2, x2, hx2⟩, hr⟩ := hr.other
  obtain ⟨a3, _, rfl, _, hr⟩ := hr.int
  obtain ⟨a4, _, rfl, _, hr⟩ := hr.int
  obtain ⟨a5, _, rfl, _, hr⟩ := hr.int
  obtain ⟨a6, _, rfl, _, hr⟩ := hr.int
  obtain rfl := hr.nil
  obtain ⟨na, nl, nc, L, e, hm, hl1, hc1, hn, hA, _⟩ := open_elts (E := eND) (fun _ => True) (by kernel_rfl) (by kernel_rfl) ND.conv hx1
  obtain ⟨ja, jl, jc, J, e', hm', hl', hc', hn', hA', _⟩ := open_elts (E := eJB) (fun _ => True) (by kernel_rfl) (by kernel_rfl) JB.conv hx2
  have q1 : a1 = .slice na nl nc := by simpa using e
  have q2 : a2 = .slice ja jl jc := by simpa using e'
  subst q1 q2
  exact ⟨⟨na, nl, nc, L, ja, jl, jc, J, a3, a4, a5, a6⟩, rfl, ⟨hA, hA', hm, hm', Nat.le_trans hl1 hc1, Nat.le_trans hl' hc'⟩⟩
structure CF where
  nodes : Int
  queues : Int
  quota : Int
  wave : Int
  lease : Int
  retry : Int
  deadline : Int
  room : Int
  disk : Int
def CF.cs (c : CF) : List Value := [.int .i64 c.nodes, .int .i64 c.queues, .int .i64 c.quota, .int .i64 c.wave, .int .i64 c.lease, .int .i64 c.retry, .int .i64 c.deadline, .int .i64 c.room, .int .i64 c.disk]
theorem CF.conv {H : Type} {enc : TypeId × Value → H} {w : World} {base : Nat} {spare : Nat → Bool} {held : Bool} (fuel : Nat) (cs : List Value) (x : DataW H × List MemPlace) (hl : cs.length = Tryd.prog.cellsOf 23)
    (h : DataW.trod enc Tryd.prog w base spare held fuel 23 cs = some x) : ∃ y : CF, cs = y.cs := by
  have hC : Tryd.prog.cellsOf 23 = 9 := by kernel_rfl
  obtain ⟨vs, rfl, hr⟩ := open_leaves 3 (ks := [.int, .int, .int, .int, .int, .int, .int, .int, .int]) (by kernel_rfl) hl hC h
  obtain ⟨a1, _, rfl, _, hr⟩ := hr.int
  obtain ⟨a2, _, rfl, _, hr⟩ := hr.int
  obtain ⟨a3, _, rfl, _, hr⟩ := hr.int
  obtain ⟨a4, _, rfl, _, hr⟩ := hr.int
  obtain ⟨a5, _, rfl, _, hr⟩ := hr.int
  obtain ⟨a6, _, rfl, _, hr⟩ := hr.int
  obtain ⟨a7, _, rfl, _, hr⟩ := hr.int
  obtain ⟨a8, _, rfl, _, hr⟩ := hr.int
  obtain ⟨a9, _, rfl, _, hr⟩ := hr.int
  obtain rfl := hr.nil
  exact ⟨⟨a1, a2, a3, a4, a5, a6, a7, a8, a9⟩, rfl⟩
end Go.Proofs.YtjfbmgndekfglaaDoor
