/- The journal: the ops of records, from a number on: the iterator. -/
import Derived.Test.YtmfbbonppmhabaaRound
import Derived.Test.YtmfbbonppmhabaaObjs
import Derived.Test.YtmfbbonppmhabaaSlots3
import Derived.RangeFuncBound
import Derived.Shelf.Abstract
import Derived.OwnWalkIn
import Derived.TacticsInMore
import Derived.LoopNIn
import Derived.LoopIn
namespace Go.Proofs.Ytmfbbonppmhabaa
set_option linter.unusedVariables false
set_option linter.unusedSimpArgs false
open Go.RowKit Go.Shelf
attribute [local go_sem] Oper.semAt_some
/-- A record, at a number: its op, nothing (it is left out), or the end. -/
def folNext (r : List UInt8) (f : Nat) : Option Bool :=
  match getNum r 0 with
  | none => none
  | some p => if p.1 < f ∧ p.2 < r.length then some false else if p.1 ≠ f ∨ r.length = p.2 then none else some true
def folOp (r : List UInt8) : List UInt8 := r.drop (nextOf (getNum r 0)).toNat
def followL : List (List UInt8) → Nat → List (List UInt8)
  | [], _ => []
  | r :: rs, f => match folNext r f with
    | none => []
    | some false => followL rs f
    | some true => folOp r :: followL rs (f + 1)
def elderL (rs : List (List UInt8)) (f : Nat) : Bool := decide (0 < rs.length) && rs.all fun r => match getNum r 0 with | none => false | some p => decide (p.1 < f)
theorem followL_le : ∀ (rs : List (List UInt8)) (f : Nat), (followL rs f).length ≤ rs.length
  | [], _ => Nat.le_refl _
  | r :: rs, f => by
    rw [followL]
    cases folNext r f with
    | none => simp
    | some b =>
      cases b
      · have := followL_le rs f; simp; omega
      · have := followL_le rs (f + 1); simp; omega
section
variable {w0 : World}
set_option maxRecDepth 10000 in
set_option maxHeartbeats 3200000 in
theorem fol_in (l gr gf : Nat) (a : Option Addr) (n c : Nat) (recs : List BS) (f0 : Nat) (R : List (List UInt8) → List Thing → Prop) (hf0 : f0 ≤ 9007199254740991) (hn : n ≤ 1000000) (hhd : ∀ x ∈ recs, BS.Hd x) (hsm : ∀ x ∈ recs, x.l.length ≤ 4000)
    (hY : ∀ (O : List (List UInt8)) (tl : List Thing) (W : World) (p : Option Addr) (m k : Nat) (op : List UInt8), R O tl → St w0 W (cellsT gf 3 [.int .i64 ((f0 + O.length : Nat) : Int)] :: cellsT gr 22 [.slice a n c] :: rowsT eS bsRefs (.slice a n c) recs :: tl) → O.length < n → op.length = m → m ≤ k → k ≤ maxLen → (p = none → k = 0) → 1 ≤ m → m ≤ 4000 → (∀ tl' W', St w0 W' (rowsT eS bsRefs (.slice a n c) recs :: tl') → At W' p op) →
      YieldAt Fence.wide 0 Try.prog l #[.slice p m k] W fun e W' => e = .returned (.bool true) ∧ ∃ tl', R (O ++ [op]) tl' ∧ St w0 W' (cellsT gf 3 [.int .i64 ((f0 + O.length : Nat) : Int)] :: cellsT gr 22 [.slice a n c] :: rowsT eS bsRefs (.slice a n c) recs :: tl'))
    (W : World) (tl : List Thing) (hR : R [] tl) (S : St w0 W (cellsT gf 3 [.int .i64 ((f0 : Nat) : Int)] :: cellsT gr 22 [.slice a n c] :: rowsT eS bsRefs (.slice a n c) recs :: tl)) :
    CallsIn Fence.wide 0 Try.prog 59 #[.func (.yield l) #[] #[], .pointer (some ⟨gr, 0, none⟩), .pointer (some ⟨gf, 0, none⟩)] W fun e W' => (∃ v, e = .returned v) ∧ ∃ tl', R (followL (recs.map BS.l) f0) tl' ∧
      St w0 W' (cellsT gf 3 [.int .i64 ((f0 + (followL (recs.map BS.l) f0).length : Nat) : Int)] :: cellsT gr 22 [.slice a n c] :: rowsT eS bsRefs (.slice a n c) recs :: tl') := by
  have A0 := S.rowsAt eSok 2 rfl
  have HN := hid A0.1
  have HHd := hid hhd
  have HSm := hid hsm
  have HY := hid hY
  have HI : Hid (∀ h : 0 < n, a.isSome = true) := fun h => A0.2.2.2.2.1.ok (by rw [A0.1]; exact h)
  have HR0 := hid hR
  have c1 := S.cell 1 rfl 0 rfl
  clear A0 hhd hsm hY hR
  refine callsIn_of_wp Try.func59 rfl trivial ?_ rfl
  simp only [Try.ntmps59, List.size_toArray, List.length_cons, List.length_nil, Nat.reduceAdd, Nat.reduceSub, Array.replicate_succ, Array.replicate_zero, List.push_toArray, List.append_toArray, List.nil_append, List.cons_append]
  gi_wp2
  clear c1
  gi_loopw [5, 6, 7, 8, 11] (fun z1 z2 z3 z4 i wr => ∃ (k : Nat) (O : List (List UInt8)) (tl : List Thing) (x1 x2 x3 x4 : Value), k ≤ n ∧ O.length ≤ k ∧ z1 = x1 ∧ z2 = x2 ∧ z3 = x3 ∧ z4 = x4 ∧ i = .int .i64 (k : Int) ∧ R O tl ∧ O ++ followL ((recs.map BS.l).drop k) (f0 + O.length) = followL (recs.map BS.l) f0 ∧ St w0 wr (cellsT gf 3 [.int .i64 ((f0 + O.length : Nat) : Int)] :: cellsT gr 22 [.slice a n c] :: rowsT eS bsRefs (.slice a n c) recs :: tl)) (fun _ _ _ _ i _ => n - (intOf i).toNat)
  case atStart => exact ⟨0, [], tl, _, _, _, _, Nat.zero_le _, Nat.le_refl _, rfl, rfl, rfl, rfl, rfl, HR0.out, rfl, S⟩
  case round =>
    obtain ⟨k, O, tk, x1, x2, x3, x4, hk, hOk, rfl, rfl, rfl, rfl, rfl, hRk, hfol, Sk⟩ := hrel
    have HRk := hid hRk
    have HFol := hid hfol
    clear hRk hfol S HR0
    by_cases hlt : k < n
    case neg =>
      have g0 : decide ((k : Int) < (n : Int)) = false := decide_eq_false (by omega)
      have g0n : decide (k < n) = false := decide_eq_false (by omega)
      have E : Hid (followL (recs.map BS.l) f0 = O) := by
        rw [Hid, ← HFol.out, List.drop_eq_nil_of_le (by rw [List.length_map, HN.out]; omega), followL, List.append_nil]
      clear HFol
      gi_wp2
      go_end0
      exact ⟨⟨_, rfl⟩, tk, by rw [E.out]; exact HRk.out, by rw [E.out]; exact Sk⟩
    have g0 : decide ((k : Int) < (n : Int)) = true := decide_eq_true (by omega)
    have g0n : decide (k < n) = true := decide_eq_true (by omega)
    have hkl : k < recs.length := by rw [HN.out]; exact hlt
    have i0 := fun wx => idxS a n c HI.out k k rfl hlt wx
    have A := Sk.rowsAt eSok 2 rfl
    have x0 := A.2.2.2.2.1.cellS hkl
    have HXk := hid (And.intro (HHd.out _ (List.getElem_mem hkl)) (A.2.2.2.2.2 _ (List.getElem_mem hkl) _ (List.mem_singleton.2 rfl)))
    have HXall : Hid (∀ tl' W', St w0 W' (rowsT eS bsRefs (.slice a n c) recs :: tl') → At W' recs[k].a recs[k].l) := fun tl' W' S' => (S'.rowsAt eSok 0 rfl).2.2.2.2.2 _ (List.getElem_mem hkl) _ (List.mem_singleton.2 rfl)
    have HStep : Hid (followL ((recs.map BS.l).drop k) (f0 + O.length) = match folNext recs[k].l (f0 + O.length) with
      | none => []
      | some false => followL ((recs.map BS.l).drop (k + 1)) (f0 + O.length)
      | some true => folOp recs[k].l :: followL ((recs.map BS.l).drop (k + 1)) (f0 + O.length + 1)) := by
      rw [Hid, List.drop_eq_getElem_cons (by rw [List.length_map]; exact hkl), followL, List.getElem_map]
    have hx4 := HSm.out _ (List.getElem_mem hkl)
    clear A
    generalize recs[k] = x at *
    generalize adr a k = A at *
    have hxl := HXk.out.1.len
    have hxc := HXk.out.1.le
    have hxb := HXk.out.1.big
    obtain ⟨f, hf⟩ : ∃ f, f0 + O.length = f := ⟨_, rfl⟩
    rw [hf] at HStep Sk
    have HFf := hid hf
    have hfb : f ≤ 9007199255740991 := by omega
    clear hf
    have c2 := Sk.cell 0 rfl 0 rfl
    gi_wp2
    refine ⟨trivial, rfl, ?_⟩
    refine (callsIn_wide.2 (getNum_any x.a x.l x.n x.c 0 _ hxl (by omega) hxc HXk.out.2)).mono ?_
    rintro e w1 ⟨rfl, rfl⟩
    have HGs : Hid (∀ p, getNum x.l 0 = some p → p.2 ≤ x.l.length) := fun p h => (getNum_some (n := p.1) (x := p.2) h).2.2.1
    have HNx : Hid (folNext x.l f = match getNum x.l 0 with
      | none => none
      | some p => if p.1 < f ∧ p.2 < x.l.length then some false else if p.1 ≠ f ∨ x.l.length = p.2 then none else some true) := rfl
    have HOp : Hid (folOp x.l = x.l.drop (nextOf (getNum x.l 0)).toNat) := rfl
    rw [hxl] at hx4
    generalize getNum x.l 0 = o at *
    cases o with
    | none =>
      have E : Hid (followL (recs.map BS.l) f0 = O) := by rw [Hid, ← HFol.out, HFf.out, HStep.out, HNx.out]; simp
      clear HNx HOp HStep HFol HGs
      rw [show res3 none = .tuple #[.int .i64 0, .int .i64 0, .bool false] from rfl]
      gi_wp2
      refine ⟨fun _ h => (by cases h), ?_⟩
      gi_wp2
      refine bodyPost_ret (results_none rfl _ _ _) rfl ?_
      exact ⟨⟨_, rfl⟩, tk, by rw [E.out]; exact HRk.out, by rw [E.out, HFf.out]; exact Sk⟩
    | some p =>
      obtain ⟨m, y⟩ := p
      have hy := HGs.out _ rfl
      simp only at hy
      rw [show res3 (some (m, y)) = .tuple #[.int .i64 (m : Int), .int .i64 (y : Int), .bool true] from rfl]
      have s1 : decide ((m : Int) < (f : Int)) = decide (m < f) := by simp
      have s2 : decide ((y : Int) < (x.n : Int)) = decide (y < x.n) := by simp
      by_cases h1 : m < f ∧ y < x.l.length
      · have E : Hid (O ++ followL ((recs.map BS.l).drop (k + 1)) (f0 + O.length) = followL (recs.map BS.l) f0) := by rw [Hid, ← HFol.out, HFf.out, HStep.out, HNx.out]; simp [h1]
        have b1 : decide (m < f) = true := decide_eq_true h1.1
        have b2 : decide (y < x.n) = true := decide_eq_true (by omega)
        rw [b1] at s1
        rw [b2] at s2
        clear HNx HOp HStep HFol HGs h1
        rw [← HFf.out] at Sk
        gi_wp2
        go_roundw
        case rel => exact ⟨k + 1, O, tk, _, _, _, _, by omega, by omega, rfl, rfl, rfl, rfl, by go_num, HRk.out, E.out, Sk⟩
        case measure => simp [intOf]; omega
      have s3 : ((m : Int) != (f : Int)) = decide (m ≠ f) := by rw [Bool.eq_iff_iff]; simp only [bne_iff_ne, ne_eq, decide_eq_true_eq]; omega
      have s3n : (m != f) = decide (m ≠ f) := by rw [Bool.eq_iff_iff]; simp
      have s4 : ((x.n : Int) == (y : Int)) = decide (x.n = y) := by rw [Bool.eq_iff_iff]; simp only [beq_iff_eq, decide_eq_true_eq]; omega
      have s4n : (x.n == y) = decide (x.n = y) := by rw [Bool.eq_iff_iff]; simp
      by_cases h2 : m ≠ f ∨ x.l.length = y
      · have E : Hid (followL (recs.map BS.l) f0 = O) := by rw [Hid, ← HFol.out, HFf.out, HStep.out, HNx.out]; simp only []; rw [if_neg h1, if_pos h2]; simp
        clear HNx HOp HStep HFol HGs
        by_cases c1 : m < f
        · have b1 : decide (m < f) = true := decide_eq_true c1
          have b2 : decide (y < x.n) = false := decide_eq_false (by omega)
          have b3 : decide (m ≠ f) = true := decide_eq_true (by omega)
          rw [b2] at s2
          rw [b3] at s3 s3n
          rw [b1] at s1
          clear s4 s4n h1 h2 c1 b3
          gi_wp2
          refine ⟨fun _ h => (by cases h), ?_⟩
          gi_wp2
          refine bodyPost_ret (results_none rfl _ _ _) rfl ?_
          exact ⟨⟨_, rfl⟩, tk, by rw [E.out]; exact HRk.out, by rw [E.out, HFf.out]; exact Sk⟩
        · have b1 : decide (m < f) = false := decide_eq_false c1
          rw [b1] at s1
          by_cases b3 : m ≠ f
          · rw [decide_eq_true b3] at s3 s3n
            clear s4 s4n s2 h1 h2 c1 b3
            gi_wp2
            refine ⟨fun _ h => (by cases h), ?_⟩
            gi_wp2
            refine bodyPost_ret (results_none rfl _ _ _) rfl ?_
            exact ⟨⟨_, rfl⟩, tk, by rw [E.out]; exact HRk.out, by rw [E.out, HFf.out]; exact Sk⟩
          · have b4 : decide (x.n = y) = true := decide_eq_true (by rcases h2 with h | h; exact absurd h b3; omega)
            rw [decide_eq_false b3] at s3 s3n
            rw [b4] at s4 s4n
            clear s2 h1 h2 c1 b3 b4
            gi_wp2
            refine ⟨fun _ h => (by cases h), ?_⟩
            gi_wp2
            refine bodyPost_ret (results_none rfl _ _ _) rfl ?_
            exact ⟨⟨_, rfl⟩, tk, by rw [E.out]; exact HRk.out, by rw [E.out, HFf.out]; exact Sk⟩
      · have hmf : m = f := Decidable.byContradiction fun h => h2 (.inl h)
        have hxy : ¬ x.l.length = y := fun h => h2 (.inr h)
        have b1 : decide (m < f) = false := decide_eq_false (by omega)
        rw [b1] at s1
        rw [decide_eq_false (show ¬ m ≠ f by omega)] at s3 s3n
        rw [decide_eq_false (show ¬ x.n = y by omega)] at s4 s4n
        have hop : Hid (folOp x.l = x.l.drop y) := by rw [Hid, HOp.out]; rfl
        have E : Hid (O ++ (folOp x.l :: followL ((recs.map BS.l).drop (k + 1)) (f + 1)) = followL (recs.map BS.l) f0) := by rw [Hid, ← HFol.out, HFf.out, HStep.out, HNx.out]; simp only []; rw [if_neg h1, if_neg h2]
        clear HNx HOp HStep HFol HGs h1 h2 s2
        have ic := fun wx => cut_lI x.a x.n x.c y (y : Int) rfl (by omega) hxc wx
        have HXc : Hid (∀ tl' W', St w0 W' (rowsT eS bsRefs (.slice a n c) recs :: tl') → At W' (cutH x.a y x.c) (folOp x.l)) := by
          intro tl' W' S'
          rw [hop.out]
          exact (HXall.out tl' W' S').l y x.c (by omega)
        rw [← HFf.out] at Sk
        obtain ⟨fn, tmps, assign, body, hy2, hR2⟩ := HY.out O tk wr (cutH x.a y x.c) (x.n - y) (x.c - y) (folOp x.l) HRk.out Sk (by omega) (by rw [hop.out, List.length_drop]; omega) (by omega) (by omega) (by intro h; have : x.a = none := by { unfold cutH at h; split at h; exact h; simpa using h }; have := HXk.out.1.nil this; omega) (by omega) (by omega) HXc.out
        gi_wp2
        refine ⟨rfl, ?_⟩
        refine hR2.mono ?_
        rintro e W2 ⟨rfl, tk2, hR3, S2⟩
        have HR3 := hid hR3
        clear hR3 hR2 hy2
        have c3 := S2.cell 0 rfl 0 rfl
        have z3 := S2.frozen 0 rfl 0
        have S3 := S2.setCell 0 rfl 0 (.int .i64 ((f + 1 : Nat) : Int))
        rw [HFf.out] at c3
        gi_wp2
        go_roundw
        case rel => exact ⟨k + 1, O ++ [folOp x.l], tk2, _, _, _, _, by omega, by simp; omega, rfl, rfl, rfl, rfl, by go_num, HR3.out, by rw [List.append_assoc, ← E.out, List.length_append, List.length_singleton, show f0 + (O.length + 1) = f + 1 by have := HFf.out; omega]; rfl, by rw [List.length_append, List.length_singleton, show f0 + (O.length + 1) = f + 1 by have := HFf.out; omega]; exact S3⟩
        case measure => simp [intOf]; omega
end
end Go.Proofs.Ytmfbbonppmhabaa
