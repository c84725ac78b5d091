/- log.Open. -/
import Derived.Test.YtkkailggpfmgaaaLogPut
namespace Go.Proofs.Ytkkailggpfmgaaa
set_option linter.unusedVariables false
set_option linter.unusedSimpArgs false
open Go.RowKit

/-- What a call has made, told over our base. -/
theorem St.rowsIn {α : Type} {e : Elt α} {refs : α → List (Option Addr × List UInt8)} {w0 w w' : World} {tl : List Thing} {v : Value} {l : List α} (S : St w0 w tl) (T : St w w' [rowsT e refs v l]) : St w0 w' (rowsT e refs v l :: tl) := by
  obtain ⟨F, h1, h2, h3, h4⟩ := T.head 0 rfl
  exact (S.push T.fin (y := rowsT e refs v l) (F := F) ⟨h1.base S.size, h2, h3, fun b hb => ⟨Nat.le_trans S.size (h4 b hb).1, (h4 b hb).2⟩⟩ (fun b hb => (h4 b hb).1)).rot

section
variable {w0 w : World} {tl : List Thing} {pd : Value} {d : DSt}
theorem logOpen_no (S : St w0 w (diskT pd d :: tl)) (fr sz : Int) (hsz0 : -9223372036854775808 ≤ sz) (hsz1 : sz ≤ 9223372036854775807) (h : fr < 0 ∨ sz < 1 ∨ (d.lasts.length : Int) < sz ∨ (d.lasts.length : Int) - sz < fr) :
    Calls Try.prog 15 #[pd, .int .i64 fr, .int .i64 sz] w fun e w' => e = .returned (.tuple #[.pointer none, .slice none 0 0, .int .i64 1]) ∧ w = w' := by
  have hN := (S.disk 0 rfl).2.2.1
  obtain ⟨N, hNN⟩ : ∃ N, d.lasts.length = N := ⟨_, rfl⟩
  rw [hNN] at hN h
  have HN := hid (show (d.lasts.length : Int) = (N : Int) by rw [hNN])
  clear hNN
  by_cases q0 : fr < 0
  · go_enter Try.func15, Try.ntmps15
    go_wp2
    go_ret3
    exact ⟨rfl, rfl⟩
  have g0 : decide (fr < 0) = false := decide_eq_false q0
  by_cases q1 : sz < 1
  · have g1 : decide (sz < 1) = true := decide_eq_true q1
    go_enter Try.func15, Try.ntmps15
    go_wp2
    go_ret3
    exact ⟨rfl, rfl⟩
  have g1 : decide (sz < 1) = false := decide_eq_false q1
  by_cases q2 : (N : Int) < sz
  · have g2 : decide ((N : Int) < sz) = true := decide_eq_true q2
    go_enter Try.func15, Try.ntmps15
    go_wp2_with (refine (hsize S 0 rfl (N : Int) HN.out).mono ?_; rintro e w1 ⟨rfl, rfl⟩)
    go_ret3
    exact ⟨rfl, rfl⟩
  have g2 : decide ((N : Int) < sz) = false := decide_eq_false q2
  have g3 : decide ((N : Int) - sz < fr) = true := decide_eq_true (by omega)
  go_enter Try.func15, Try.ntmps15
  go_wp2_with (refine (hsize S 0 rfl (N : Int) HN.out).mono ?_; rintro e w1 ⟨rfl, rfl⟩)
  go_ret3
  exact ⟨rfl, rfl⟩

/-- What opening tells and leaves. -/
def OpenPost (w0 : World) (pd : Value) (d : DSt) (fr sz : Nat) (tl : List Thing) (e : Ending) (w' : World) : Prop :=
  ∃ g a c xs, e = .returned (.tuple #[.pointer (some ⟨g, 0, none⟩), .slice a (fAll (piece d.bytes fr sz) 0).1.length c, .int .i64 0]) ∧ xs.map BS.l = (fAll (piece d.bytes fr sz) 0).1 ∧ (∀ x ∈ xs, BS.Hd x) ∧
    St w0 w' (cellsT g 81 (logC pd fr sz ((fAll (piece d.bytes fr sz) 0).1.flatMap frameB).length) :: diskT pd (d.nought fr sz ((fAll (piece d.bytes fr sz) 0).1.flatMap frameB).length) :: rowsT eS bsRefs (.slice a (fAll (piece d.bytes fr sz) 0).1.length c) xs :: tl)

set_option maxRecDepth 10000 in
set_option maxHeartbeats 1600000 in
theorem logOpen_yes (S : St w0 w (diskT pd d :: tl)) (fr sz : Nat) (h1 : 1 ≤ sz) (h2 : fr + sz ≤ d.lasts.length) (hw : d.waits.length ≤ 1000) (hs : d.syncs < 100000000) :
    Calls Try.prog 15 #[pd, .int .i64 fr, .int .i64 sz] w fun e w' => OpenPost w0 pd d fr sz tl e w' := by
  have hptr : ∃ gd, pd = .pointer (some ⟨gd, 0, none⟩) := by
    obtain ⟨F, gd, gl, vw, ws, e, _⟩ := S.head 0 rfl
    exact ⟨gd, e⟩
  obtain ⟨gd, rfl⟩ := hptr
  have hd := S.disk 0 rfl
  have hN := hd.2.2.1
  obtain ⟨N, hNN⟩ : ∃ N, d.lasts.length = N := ⟨_, rfl⟩
  rw [hNN] at hN hd
  have HN := hid (show (d.lasts.length : Int) = (N : Int) by rw [hNN])
  have HB := hid hd.2.2.2
  have HF := hid h2
  rw [hNN] at h2
  have hpl := piece_len (l := d.bytes) (fr := fr) (sz := sz) (by rw [hd.2.2.2]; exact h2)
  obtain ⟨r1, r2, r3, r4⟩ := fAll_is (piece d.bytes fr sz)
  unfold OpenPost
  obtain ⟨L, hL⟩ : ∃ L, piece d.bytes fr sz = L := ⟨_, rfl⟩
  rw [hL] at hpl r1 r2 r3 r4 ⊢
  obtain ⟨R, hR⟩ : ∃ R, fAll L 0 = R := ⟨_, rfl⟩
  rw [hR] at r1 r2 r3 r4 ⊢
  obtain ⟨u, hu⟩ : ∃ u, (R.1.flatMap frameB).length = u := ⟨_, rfl⟩
  rw [hu] at r2 r3 ⊢
  rw [hpl] at r3
  have HP := hid hpl
  have HL := hid hL
  have HR := hid hR
  have HU := hid r2
  have g0 : decide ((fr : Int) < 0) = false := decide_eq_false (by omega)
  have g1 : decide ((sz : Int) < 1) = false := decide_eq_false (by omega)
  have g2 : decide ((N : Int) < (sz : Int)) = false := decide_eq_false (by omega)
  have g3 : decide ((N : Int) - (sz : Int) < (fr : Int)) = false := decide_eq_false (by omega)
  have g2' : decide (N < sz) = false := decide_eq_false (by omega)
  have S1 := (S.newCells 81 #[.pointer (some ⟨gd, 0, none⟩), .int .i64 (fr : Int), .int .i64 (sz : Int), .int .i64 0]).rot
  have hN1 := hd.2.1
  clear hd hNN hL hR hu r1 r2 r4 hpl
  go_enter Try.func15, Try.ntmps15
  go_wp2_with (go_at_call 46; refine (hsize S 0 rfl (N : Int) HN.out).mono ?_; rintro e w1 ⟨rfl, rfl⟩)
  obtain ⟨g, hg⟩ : ∃ g, w.heap.size = g := ⟨_, rfl⟩
  rw [hg] at S1 ⊢
  clear hg
  generalize w.alloc _ = w1 at S1 ⊢
  refine (hbytes (by exact S1) 1 rfl (by omega) N HB.out).mono ?_
  rintro e w2 ⟨ab, cb, rfl, S2', -⟩
  have S2 := S2'.rot
  have hcb := (S2.slA 0 rfl).2.1
  have hA2 := hid ((S2.at 0 rfl).cut fr sz cb (by omega))
  have ic := cut_lhI ab N cb fr (fr + sz) (fr : Int) ((fr : Int) + (sz : Int)) rfl (by omega) (by omega) (by omega)
  clear S2'
  go_wp2_with fail
  refine (frAll_any (cutH ab fr cb) L sz (cb - fr) 0 w2 HP.out (by omega) (by omega) (by rw [← HL.out]; exact hA2.out) (by omega) (by omega)).mono ?_
  rintro e w3 ⟨a3, c3, xs, rfl, hxs, hhd, T3⟩
  rw [HR.out] at hxs T3 ⊢
  rw [HU.out]
  have S3 := S2.rowsIn T3
  have HX := hid (And.intro hxs hhd)
  clear hxs hhd T3 ic
  have c3' : w3.cell? ⟨g, 3, none⟩ = some (.int .i64 0) := S3.cell 2 rfl 3 rfl
  have f3 := S3.frozen 2 rfl 3
  have S4 := S3.setCell 2 rfl 3 (.int .i64 (u : Int))
  have S5 : St w0 (w3.setCell ⟨g, 3, none⟩ (.int .i64 (u : Int))) (cellsT g 81 (logC (.pointer (some ⟨gd, 0, none⟩)) fr sz u) :: diskT (.pointer (some ⟨gd, 0, none⟩)) d :: rowsT eS bsRefs (.slice a3 R.1.length c3) xs :: bytesT (.slice ab N cb) d.bytes :: tl) := (S4.front 3 rfl).front 3 rfl
  clear S4
  go_wp2_with fail
  refine (noughts_any (by exact S5) u r3 HF.out hw hs).mono ?_
  rintro e w4 ⟨rfl, S6⟩
  go_wp2
  go_ret3
  exact ⟨g, a3, c3, xs, rfl, HX.out.1, HX.out.2, (S6.front 3 rfl).tail⟩
end

end Go.Proofs.Ytkkailggpfmgaaa
