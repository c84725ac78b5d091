/- What is done to nets. -/
import Derived.Test.YtjibmbejfpdifaaNetLaw4
namespace Go.Proofs.Ytjibmbejfpdifaa
set_option linter.unusedVariables false
set_option linter.unusedSimpArgs false
open Go.RowKit
structure NAct where
  kind : Int
  i : Int
  bit : Int
  m : Msg
def NAct.cs (x : NAct) : List Value := [.int .i64 x.kind, .int .i64 x.i, .int .i64 x.bit, .int .i64 x.m.node, .int .i64 x.m.kind, .int .i64 x.m.term, .int .i64 x.m.gen, .int .i64 x.m.job, .int .i64 x.m.inc, .int .i64 x.m.version, .int .i64 x.m.epoch, .int .i64 x.m.until_, .int .i64 x.m.mode, .int .i64 x.m.work]
def eNA : Elt NAct := { T := 32, E := 52, s := 14, byt := 112, z := .agg #[.int .i64 0, .int .i64 0, .int .i64 0, .int .i64 0, .int .i64 0, .int .i64 0, .int .i64 0, .int .i64 0, .int .i64 0, .int .i64 0, .int .i64 0, .int .i64 0, .int .i64 0, .int .i64 0], enc := NAct.cs }
theorem eNAok : eNA.Ok := ⟨fun _ => rfl, fun x u hu => by
  simp only [eNA, NAct.cs, List.mem_cons, List.not_mem_nil, or_false] at hu
  rcases hu with rfl | rfl | rfl | rfl | rfl | rfl | rfl | rfl | rfl | rfl | rfl | rfl | rfl | rfl <;> rfl, by decide, by kernel_rfl, by kernel_rfl, by rfl⟩
structure NAct.Ok (x : NAct) : Prop where
  bit0 : -9223372036854775808 ≤ x.bit
  bit1 : x.bit ≤ 9223372036854775807
theorem NAct.conv {H : Type} {enc : TypeId × Value → H} {w : World} {base : Nat} {spare : Nat → Bool} {held : Bool} (fuel : Nat) (cs : List Value) (x : DataW H × List MemPlace) (hl : cs.length = eNA.s)
    (h : DataW.trod enc Try.prog w base spare held fuel eNA.E cs = some x) : ∃ y : NAct, cs = eNA.enc y ∧ y.Ok := by
  have hC : Try.prog.cellsOf eNA.E = 14 := by kernel_rfl
  obtain ⟨vs, rfl, hr⟩ := open_leaves 3 (ks := [.int, .int, .int, .int, .int, .int, .int, .int, .int, .int, .int, .int, .int, .int]) (by kernel_rfl) (hl.trans hC.symm) hC h
  obtain ⟨a1, _, rfl, _, hr⟩ := hr.int
  obtain ⟨a2, _, rfl, _, hr⟩ := hr.int
  obtain ⟨a3, _, rfl, hb, hr⟩ := hr.int
  obtain ⟨a4, _, rfl, _, hr⟩ := hr.int
  obtain ⟨a5, _, rfl, _, hr⟩ := hr.int
  obtain ⟨a6, _, rfl, _, hr⟩ := hr.int
  obtain ⟨a7, _, rfl, _, hr⟩ := hr.int
  obtain ⟨a8, _, rfl, _, hr⟩ := hr.int
  obtain ⟨a9, _, rfl, _, hr⟩ := hr.int
  obtain ⟨a10, _, rfl, _, hr⟩ := hr.int
  obtain ⟨a11, _, rfl, _, hr⟩ := hr.int
  obtain ⟨a12, _, rfl, _, hr⟩ := hr.int
  obtain ⟨a13, _, rfl, _, hr⟩ := hr.int
  obtain ⟨a14, _, rfl, _, hr⟩ := hr.int
  obtain rfl := hr.nil
  exact ⟨⟨a1, a2, a3, ⟨a4, a5, a6, a7, a8, a9, a10, a11, a12, a13, a14⟩⟩, rfl, hb.1, hb.2⟩
def ActAt (w : World) (A : Addr) (x : NAct) : Prop := w.cell? A = some (.int .i64 x.kind) ∧ w.cell? { block := A.block, off := A.off + 1 } = some (.int .i64 x.i) ∧ w.cell? { block := A.block, off := A.off + 2 } = some (.int .i64 x.bit) ∧ w.cell? { block := A.block, off := A.off + 3 } = some (.int .i64 x.m.node) ∧ w.cell? { block := A.block, off := A.off + 4 } = some (.int .i64 x.m.kind) ∧ w.cell? { block := A.block, off := A.off + 5 } = some (.int .i64 x.m.term) ∧ w.cell? { block := A.block, off := A.off + 6 } = some (.int .i64 x.m.gen) ∧ w.cell? { block := A.block, off := A.off + 7 } = some (.int .i64 x.m.job) ∧ w.cell? { block := A.block, off := A.off + 8 } = some (.int .i64 x.m.inc) ∧ w.cell? { block := A.block, off := A.off + 9 } = some (.int .i64 x.m.version) ∧ w.cell? { block := A.block, off := A.off + 10 } = some (.int .i64 x.m.epoch) ∧ w.cell? { block := A.block, off := A.off + 11 } = some (.int .i64 x.m.until_) ∧ w.cell? { block := A.block, off := A.off + 12 } = some (.int .i64 x.m.mode) ∧ w.cell? { block := A.block, off := A.off + 13 } = some (.int .i64 x.m.work)
theorem AtG.actAt {w : World} {a : Option Addr} {l : List NAct} (h : AtG eNA w a l) {k : Nat} (hk : k < l.length) : ActAt w (adr a (k * 14)) l[k] := by
  have hj : ∀ j, j < 14 → w.cell? ((adr a (k * 14)).add j) = (eNA.enc l[k])[j]? := by
    intro j hj
    have := (h k hk).2 j hj
    rw [show eNA.s = 14 from rfl, ← adr_two] at this
    exact this
  exact ⟨hj 0 (by decide), hj 1 (by decide), hj 2 (by decide), hj 3 (by decide), hj 4 (by decide), hj 5 (by decide), hj 6 (by decide), hj 7 (by decide), hj 8 (by decide), hj 9 (by decide), hj 10 (by decide), hj 11 (by decide), hj 12 (by decide), hj 13 (by decide)⟩
theorem idxNA (a : Option Addr) (n cap : Nat) (hn : 0 < n → a.isSome = true) (k : Nat) (hk : k < n) (wx : World) :
    (Instr.indexAt 32 (.slice a n cap) (.int .i64 (k : Int))).run Try.prog wx = .ok (.pointer (some (adr a (k * 14)))) wx := idxG eNAok a n cap hn k k rfl hk wx
theorem St.act {w0 w : World} {l : List Thing} (S : St w0 w l) (k : Nat) {g : Nat} {T : TypeId} {x : NAct} (h : l[k]? = some (cellsT g T x.cs)) :
    w.cell? ⟨g, 0, none⟩ = some (.int .i64 x.kind) ∧ w.cell? ⟨g, 1, none⟩ = some (.int .i64 x.i) ∧ w.cell? ⟨g, 2, none⟩ = some (.int .i64 x.bit) ∧ w.cell? ⟨g, 3, none⟩ = some (.int .i64 x.m.node) ∧ w.cell? ⟨g, 4, none⟩ = some (.int .i64 x.m.kind) ∧ w.cell? ⟨g, 5, none⟩ = some (.int .i64 x.m.term) ∧ w.cell? ⟨g, 6, none⟩ = some (.int .i64 x.m.gen) ∧ w.cell? ⟨g, 7, none⟩ = some (.int .i64 x.m.job) ∧ w.cell? ⟨g, 8, none⟩ = some (.int .i64 x.m.inc) ∧ w.cell? ⟨g, 9, none⟩ = some (.int .i64 x.m.version) ∧ w.cell? ⟨g, 10, none⟩ = some (.int .i64 x.m.epoch) ∧ w.cell? ⟨g, 11, none⟩ = some (.int .i64 x.m.until_) ∧ w.cell? ⟨g, 12, none⟩ = some (.int .i64 x.m.mode) ∧ w.cell? ⟨g, 13, none⟩ = some (.int .i64 x.m.work) :=
  ⟨S.cell k h 0 rfl, S.cell k h 1 rfl, S.cell k h 2 rfl, S.cell k h 3 rfl, S.cell k h 4 rfl, S.cell k h 5 rfl, S.cell k h 6 rfl, S.cell k h 7 rfl, S.cell k h 8 rfl, S.cell k h 9 rfl, S.cell k h 10 rfl, S.cell k h 11 rfl, S.cell k h 12 rfl, S.cell k h 13 rfl⟩

end Go.Proofs.Ytjibmbejfpdifaa
