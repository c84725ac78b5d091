/- Open, by what stands on the disk. -/
import Derived.Test.YtkkailggpfmgaaaLogOpen
import Derived.Test.YtkkailggpfmgaaaLogMath2
namespace Go.Proofs.Ytkkailggpfmgaaa
set_option linter.unusedVariables false
set_option linter.unusedSimpArgs false
open Go.RowKit

theorem St.drop {w0 w : World} {l : List Thing} (S : St w0 w l) (n : Nat) : St w0 w (l.drop n) :=
  S.pick (fun i => n + i) (fun i hi => by rw [List.length_drop] at hi; exact ⟨by omega, by rw [List.getElem?_drop]⟩) (fun i j _ _ h => by simpa using h)
/-- A new disk, and a log that is opened on it. -/
theorem logNew {N fr sz : Nat} (h : fr + sz ≤ N) (hN : N ≤ 65536) : ∃ d ps u, (DSt.new N).nought fr sz ((fAll (piece (DSt.new N).bytes fr sz) 0).1.flatMap frameB).length = d ∧ (fAll (piece (DSt.new N).bytes fr sz) 0).1 = ps ∧ ((fAll (piece (DSt.new N).bytes fr sz) 0).1.flatMap frameB).length = u ∧ LogInv d fr sz u ps ∧ d.waits = [] ∧ d.syncs = 1 ∧ d.lasts.length = N ∧ ps = [] ∧ u = 0 := by
  have hl : (DSt.new N).lasts.length = N := by simp [DSt.new]
  have hI := LogInv.open_ (d := DSt.new N) (fr := fr) (sz := sz) (by intro x hx; simp [DSt.new] at hx) (by rw [hl]; exact h)
  obtain ⟨n1, n2, n3, n4⟩ := nought_len (d := DSt.new N) (fr := fr) (sz := sz) (u := ((fAll (piece (DSt.new N).bytes fr sz) 0).1.flatMap frameB).length) (by intro x hx; simp [DSt.new] at hx) (by rw [hl]; exact h) hI.le
  have e : fAll (piece (DSt.new N).bytes fr sz) 0 = ([], 0) := by
    have e1 : piece (DSt.new N).bytes fr sz = List.replicate sz 0 := by
      show piece (List.replicate N 0) fr sz = _
      unfold piece
      rw [List.drop_replicate, List.take_replicate]
      congr 1; omega
    rw [e1]
    have := fAll_frames (ps := []) (X := List.replicate sz 0) (by simp) (by rw [fGet_zeros]; simp)
    simpa using this
  refine ⟨_, _, _, rfl, rfl, rfl, hI, n2, by rw [n3]; rfl, by rw [n1, hl], by rw [e], by rw [e]; rfl⟩

theorem openInv {d : DSt} {fr sz used : Nat} {ps : List (List UInt8)} (hfit : ∀ x ∈ d.waits, x.1 + x.2.length ≤ d.lasts.length) (hr : fr + sz ≤ d.lasts.length) (h : fAll (piece d.bytes fr sz) 0 = (ps, (used : Int))) :
    ∃ d', d.nought fr sz used = d' ∧ LogInv d' fr sz used ps ∧ d'.waits = [] ∧ d'.syncs = d.syncs + 1 ∧ d'.lasts.length = d.lasts.length ∧ (ps.flatMap frameB).length = used := by
  have hI := LogInv.open_ hfit hr
  obtain ⟨r1, r2, r3, r4⟩ := fAll_is (piece d.bytes fr sz)
  rw [h] at hI r2 r3
  simp only [] at hI r2 r3
  have hu : (ps.flatMap frameB).length = used := by omega
  rw [hu] at hI
  obtain ⟨n1, n2, n3, n4⟩ := nought_len hfit hr hI.le
  exact ⟨_, rfl, hI, n2, n3, n1, hu⟩
section
variable {w0 w : World} {tl : List Thing} {pd : Value} {d : DSt}
theorem logOpen_inv (S : St w0 w (diskT pd d :: tl)) (fr sz : Nat) {ps : List (List UInt8)} {used : Nat} (hfit : ∀ x ∈ d.waits, x.1 + x.2.length ≤ d.lasts.length) (h : fAll (piece d.bytes fr sz) 0 = (ps, (used : Int)))
    (h1 : 1 ≤ sz) (h2 : fr + sz ≤ d.lasts.length) (hw : d.waits.length ≤ 1000) (hs : d.syncs < 100000000) :
    Calls Try.prog 15 #[pd, .int .i64 fr, .int .i64 sz] w fun e w' => ∃ g a c xs d', e = .returned (.tuple #[.pointer (some ⟨g, 0, none⟩), .slice a ps.length c, .int .i64 0]) ∧ xs.map BS.l = ps ∧ (∀ x ∈ xs, BS.Hd x) ∧
      LogInv d' fr sz used ps ∧ d'.waits = [] ∧ d'.syncs = d.syncs + 1 ∧ d'.lasts.length = d.lasts.length ∧ St w0 w' (cellsT g 81 (logC pd fr sz used) :: diskT pd d' :: rowsT eS bsRefs (.slice a ps.length c) xs :: tl) := by
  obtain ⟨d', e1, e2, e3, e4, e5, e6⟩ := openInv hfit h2 h
  refine (logOpen_yes S fr sz h1 h2 hw hs).mono ?_
  rintro e w' ⟨g, a, c, xs, q1, q2, q3, q4⟩
  rw [h] at q1 q2 q4
  simp only [] at q1 q2 q4
  rw [e6, e1] at q4
  exact ⟨g, a, c, xs, d', q1, q2, q3, e2, e3, e4, e5, q4⟩
theorem same_rows {r : List Thing} (S : St w0 w r) {k j : Nat} {a b : Option Addr} {n m c c' : Nat} {xs ys : List BS} (hk : r[k]? = some (rowsT eS bsRefs (.slice a n c) xs)) (hx : ∀ x ∈ xs, BS.Hd x) (hj : r[j]? = some (ownT eS (.slice b m c') ys)) (hy : ∀ x ∈ ys, BS.Hd x ∧ At w0 x.a x.l) (hn : n ≤ 1000000) (hm : m ≤ 1000000) :
    Calls Try.prog 20 #[.slice a n c, .slice b m c'] w fun e w' => e = .returned (.bool (xs.map BS.l == ys.map BS.l)) ∧ St w0 w' r := by
  have A := S.rowsAt eSok k hk
  have B := S.slG eSok j hj
  refine (same_any a b xs ys n m c c' w A.1 B.1 hn hm A.2.2.2.2.1 B.2.2.2.2 (fun x h => ⟨hx x h, A.2.2.2.2.2 x h _ (List.mem_singleton.2 rfl)⟩) (fun x h => ⟨(hy x h).1, S.old (hy x h).2⟩)).mono ?_
  rintro e w' ⟨h1, h2⟩
  exact ⟨h1, S.grow h2⟩
end

end Go.Proofs.Ytkkailggpfmgaaa
