/- The walk of Write. -/
import Derived.Test.YtkkailggpfmgaaaDiskWalk
namespace Go.Proofs.Ytkkailggpfmgaaa
set_option linter.unusedVariables false
set_option linter.unusedSimpArgs false
open Go.RowKit

set_option maxRecDepth 10000 in
set_option maxHeartbeats 1600000 in
theorem write_yes {w : World} {B : Nat} {F : Nat → Prop} {p : Value} {d : DSt} (h : IsDisk w B F p d) (at_ : Nat) (a : Option Addr) (l : List UInt8) (n cap : Nat) (hn : l.length = n) (hm : at_ + n ≤ d.lasts.length)
    (hw : d.waits.length ≤ 1000000) (hnil : a = none → cap = 0) (hA : At w a l) :
    Calls Try.prog 50 #[p, .int .i64 (at_ : Int), .slice a n cap] w fun e w' => e = .returned (.int .i64 0) ∧
      ∃ F', IsDisk w' B F' p { d with waits := d.waits ++ [(at_, l)] } ∧ Touch F w w' ∧ ∀ b, F' b → F b ∨ w.heap.size ≤ b := by
  obtain ⟨g, gl, vw, ws, rfl, h⟩ := h
  obtain ⟨c0, c1, c2, cf⟩ := cells3 h.blk
  have hbig := h.big
  have hwl := h.len
  have H := hid h
  have HA := hid hA
  have HN := hid hn
  have HNil := hid hnil
  have hm0 := hid hm
  have hnm : n ≤ d.lasts.length := by omega
  have g0 : decide ((at_ : Int) < 0) = false := decide_eq_false (by omega)
  have g1 : decide (d.lasts.length < n) = false := decide_eq_false (by omega)
  have g2 : decide ((d.lasts.length : Int) - n < at_) = false := decide_eq_false (by omega)
  have hsize : g < w.heap.size := (h.low _ h.foot.1).2
  have hne1 : vw.ownBlock ≠ some g := h.ne.2.1
  have hB : B ≤ w.heap.size := by have := h.low _ h.foot.1; omega
  clear h hA hn hnil hm
  have HL : Hid ((ws.length + 1) * eW.byt ≤ 140737488355328) := by rw [Hid, hwl]; show (d.waits.length + 1) * 32 ≤ _; omega
  have HL2 : Hid (ws.length + 1 ≤ maxLen) := by rw [Hid, hwl]; unfold maxLen; omega
  clear hwl
  generalize hmm : d.lasts.length = m at *
  have HM := hid hmm
  clear hmm
  have hce := fun w => run_enter (f := 61) Try.func61 (by kernel_rfl) rfl #[.slice a n cap] w
  go_enter Try.func50, Try.ntmps50
  go_wp2_with fail
  go_region_law (first
    | (refine step_call1 rfl 61 (.tmp 41) 32 rfl _ rfl hce (clone_any a l n cap _ (by exact HN.out) (by omega) (by exact HNil.out) (by exact HA.out)) ?_
       rintro v1 w1 ⟨hown1, hb1⟩
       have c1' : w1.cell? ⟨g, 1, none⟩ = some vw := by rw [hb1.cell hsize]; exact c1
       have c1a : ∀ o : Obj, (w1.alloc o).cell? ⟨g, 1, none⟩ = some vw := fun o => (World.cell?_of_block (w := w1) (a := ⟨g, 1, none⟩) (Below.heap_alloc _ _ _ (Nat.lt_of_lt_of_le hsize hb1.size))).trans c1'
       have HF1 := hid ((hb1.frozen (p := ⟨g, 1, none⟩) hsize).trans (cf 1))
       have hsz1 : w.heap.size ≤ w1.heap.size := hb1.size
       obtain ⟨a1, k1, rfl, hk1, hk1m, hk1n, hat1, hab1⟩ := ((ownB _ _ _ _).2 hown1).at eBok
       have HO1 := hid hown1
       have HB1 := hid hb1
       have HAB := hid hab1
       clear hown1 hb1 hat1 hab1 hk1 hk1m hk1n)
    | (refine step_app (by rfl) (.tmp 39) (.tmp 44) 72 72 72 rfl rfl _ _ rfl rfl (runG_full1 eWok w1 w1.heap.size rfl B vw ws (by exact H.out.wts.stay (undrew HB1.out)) ⟨at_, a1, l.length, k1⟩ _ rfl (by exact HL.out) (by exact HL2.out) (by omega)) ?_
       rintro v2 w2 hap
       have hk2 := hap.keep g (by omega) hne1
       have c2' : w2.cell? ⟨g, 1, none⟩ = some vw := (World.cell?_of_block (w := w1) (a := ⟨g, 1, none⟩) hk2).trans c1'
       have f2' : w2.frozen? ⟨g, 1, none⟩ = false := (World.frozen?_of_block (w := w1) (a := ⟨g, 1, none⟩) hk2).trans HF1.out
       obtain ⟨a2, n2, k2, rfl⟩ : ∃ a2 n2 k2, v2 = .slice a2 n2 k2 := by obtain ⟨a2, k2, e, _⟩ := hap.own.at eWok; exact ⟨a2, _, k2, e⟩
       have HP := hid hap
       clear hap hk2)
    | fail)
  all_goals (
    go_wp2
    go_ret
    exact ⟨rfl, write_fin H.out (undrew HB1.out) HO1.out HP.out (by rw [HM.out, HN.out]; exact hm0.out)⟩)

end Go.Proofs.Ytkkailggpfmgaaa
