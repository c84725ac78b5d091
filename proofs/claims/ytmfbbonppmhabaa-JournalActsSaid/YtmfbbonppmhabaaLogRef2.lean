/- The document's log (dunnageref05): Open; what the log and the document's log have in common. -/
import Derived.Test.YtmfbbonppmhabaaLogRef
import Derived.Test.YtmfbbonppmhabaaLogTear
namespace Go.Proofs.Ytmfbbonppmhabaa
set_option linter.unusedVariables false
set_option linter.unusedSimpArgs false
open Go.RowKit

section
variable {w0 w : World} {tl : List Thing} {pr vL : Value} {r : RD} {g fr sz : Nat} {xs : List BS}
set_option maxRecDepth 10000 in
set_option maxHeartbeats 1600000 in
theorem rOpen_no (S : St w0 w (rdT pr r :: tl)) (fr sz : Int) (hsz0 : -9223372036854775808 ≤ sz) (hsz1 : sz ≤ 9223372036854775807) (h : fr < 0 ∨ sz < 1 ∨ (r.b.length : Int) < fr ∨ (r.b.length : Int) - fr < sz) :
    Calls Try.prog 42 #[pr, .int .i64 fr, .int .i64 sz] w fun e w' => e = .returned (.tuple #[.pointer none, .bool false]) ∧ w = w' := by
  obtain ⟨hok, gr, vb, va, vv, rfl, S1⟩ := S.rdOpen
  have hbig := hok.big
  obtain ⟨ab, cb, eb, hb1, hb2, hb3, hb4⟩ := S1.sl 1 rfl
  subst eb
  have c0 := S1.cell 0 rfl 0 rfl
  obtain ⟨N, hNN⟩ : ∃ N, r.b.length = N := ⟨_, rfl⟩
  rw [hNN] at hbig h c0
  clear hb1 hb2 hb3 hb4 hok
  by_cases q0 : fr < 0
  · go_enter Try.func42, Try.ntmps42
    go_wp2
    go_ret2
    exact ⟨rfl, rfl⟩
  have g0 : decide (fr < 0) = false := decide_eq_false q0
  by_cases q1 : sz < 1
  · have g1 : decide (sz < 1) = true := decide_eq_true q1
    go_enter Try.func42, Try.ntmps42
    go_wp2
    go_ret2
    exact ⟨rfl, rfl⟩
  have g1 : decide (sz < 1) = false := decide_eq_false q1
  by_cases q2 : (N : Int) < fr
  · have g2 : decide ((N : Int) < fr) = true := decide_eq_true q2
    go_enter Try.func42, Try.ntmps42
    go_wp2
    go_ret2
    exact ⟨rfl, rfl⟩
  have g2 : decide ((N : Int) < fr) = false := decide_eq_false q2
  have g3 : decide ((N : Int) - fr < sz) = true := decide_eq_true (by omega)
  have t1 : IntKind.i64.wrap ((N : Int) - fr) = (N : Int) - fr := by rw [IntKind.wrap_i64]; omega
  go_enter Try.func42, Try.ntmps42
  go_wp2
  go_ret2
  exact ⟨rfl, rfl⟩
set_option maxRecDepth 10000 in
set_option maxHeartbeats 1600000 in
theorem rOpen_yes (S : St w0 w (rdT pr r :: tl)) (fr sz : Nat) (h1 : 1 ≤ sz) (h2 : fr + sz ≤ r.b.length) (hps : r.ps.length ≤ 10000000) (hs : r.syncs < 100000000) {ps : List (List UInt8)} {used : Nat} (hbl : r.bytes.length = r.b.length) (h : fAll (piece r.bytes fr sz) 0 = (ps, (used : Int))) (hu : used ≤ sz) :
    Calls Try.prog 42 #[pr, .int .i64 fr, .int .i64 sz] w fun e w' => ∃ g a c xs, e = .returned (.tuple #[.pointer (some ⟨g, 0, none⟩), .bool true]) ∧ xs.map BS.l = ps ∧ (∀ x ∈ xs, BS.Hd x) ∧
      St w0 w' (cellsT g 90 (rlogC pr fr sz (.slice a xs.length c)) :: rdT pr (r.nought fr sz used) :: rowsT eS bsRefs (.slice a xs.length c) xs :: tl) := by
  obtain ⟨hok, gr, vb, va, vv, rfl, S1⟩ := S.rdOpen
  have hbig := hok.big
  obtain ⟨ab, cb, eb, hb1, hb2, hb3, hb4⟩ := S1.sl 1 rfl
  subst eb
  have c0 := S1.cell 0 rfl 0 rfl
  obtain ⟨N, hNN⟩ : ∃ N, r.b.length = N := ⟨_, rfl⟩
  have HN := hid hNN
  have hpl := piece_len (l := r.bytes) (fr := fr) (sz := sz) (by rw [hbl]; exact h2)
  rw [hNN] at hbig h2 c0 hbl
  have HP := hid hpl
  have HB := hid hbl
  have HA := hid h
  clear hb1 hb2 hb3 hb4 hok hpl hbl h hNN
  have g0 : decide ((fr : Int) < 0) = false := decide_eq_false (by omega)
  have g1 : decide ((sz : Int) < 1) = false := decide_eq_false (by omega)
  have g2 : decide ((N : Int) < (fr : Int)) = false := decide_eq_false (by omega)
  have g3 : decide ((N : Int) - (fr : Int) < (sz : Int)) = false := decide_eq_false (by omega)
  have t1 : IntKind.i64.wrap ((N : Int) - (fr : Int)) = (N : Int) - (fr : Int) := by rw [IntKind.wrap_i64]; omega
  have t2 : IntKind.i64.wrap ((fr : Int) + (sz : Int)) = (fr : Int) + (sz : Int) := by rw [IntKind.wrap_i64]; omega
  have S2 := (S.newCells 90 #[.pointer (some ⟨gr, 0, none⟩), .int .i64 (fr : Int), .int .i64 (sz : Int), .slice none 0 0]).rot
  obtain ⟨g, hg⟩ : ∃ g, w.heap.size = g := ⟨_, rfl⟩
  rw [hg] at S2
  go_enter Try.func42, Try.ntmps42
  go_wp2_with fail
  clear hg
  generalize w.alloc _ = w1 at S2 ⊢
  refine (rdbytes_any (by exact S2.front 1 rfl) N HN.out (by omega)).mono ?_
  rintro e w2 ⟨ab2, cb2, rfl, S3, -⟩
  have hcb := (S3.slA 0 rfl).2.1
  have hA2 := hid ((S3.at 0 rfl).cut fr sz cb2 (by omega))
  have ic := cut_lhI ab2 N cb2 fr (fr + sz) (fr : Int) ((fr : Int) + (sz : Int)) rfl (by omega) (by omega) (by omega)
  go_wp2_with fail
  refine (rfrAll_any (cutH ab2 fr cb2) (piece r.bytes fr sz) sz (cb2 - fr) 0 w2 HP.out (by omega) (by omega) (by exact hA2.out) (by omega) (by omega)).mono ?_
  rintro e w3 ⟨a3, c3, xs, rfl, hxs, hhd, T3⟩
  rw [HA.out] at hxs T3 ⊢
  have S4 := S3.rowsIn T3
  have hxl : xs.length = ps.length := by have := congrArg List.length hxs; simpa using this
  have HX := hid (And.intro hxs hhd)
  simp only [] at S4
  rw [← hxl] at S4 ⊢
  clear hxs hhd T3 ic hxl
  have c3' := S4.cell 3 rfl 3 rfl
  have f3 := S4.frozen 3 rfl 3
  have S5 := S4.setCell 3 rfl 3 (.slice a3 xs.length c3)
  have S6 : St w0 (w3.setCell ⟨g, 3, none⟩ (.slice a3 xs.length c3)) (cellsT g 90 (rlogC (.pointer (some ⟨gr, 0, none⟩)) fr sz (.slice a3 xs.length c3)) :: rdT (.pointer (some ⟨gr, 0, none⟩)) r :: rowsT eS bsRefs (.slice a3 xs.length c3) xs :: bytesT (.slice ab2 N cb2) r.bytes :: tl) := by
    have := (S5.front 2 rfl).front 3 rfl
    exact this
  clear S4 S5
  go_wp2_with fail
  refine (rzero_any (by exact S6) used hu (by omega) hps hs).mono ?_
  rintro e w4 ⟨rfl, S7⟩
  go_wp2
  go_ret2
  exact ⟨g, a3, c3, xs, rfl, HX.out.1, HX.out.2, (S7.front 3 rfl).tail⟩
end

end Go.Proofs.Ytmfbbonppmhabaa
