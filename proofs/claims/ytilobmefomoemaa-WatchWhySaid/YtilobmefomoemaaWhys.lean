/- The document's Why: its minimum is the first fault; walked. -/
import Derived.Test.YtilobmefomoemaaWatchMore
import Derived.Test.YtilobmefomoemaaWhyRights
import Derived.Test.YtilobmefomoemaaStoresAct
import Derived.Deep.CutRange
namespace Go.Proofs.Ytilobmefomoemaa
set_option linter.unusedVariables false
set_option linter.unusedSimpArgs false
open Go.RowKit
def mn (v n : Int) (b : Bool) : Int := if b = true then min v n else v
def crowdA (s : STA) (L : List AG) (a : AG) : Bool := hasA a && (isJ s a.job && decide (maxOf s a.job < (cntG L a.job a.inc : Int)))
def mixR (L : List AG) (x : AG) : Nat → Bool
  | 0 => false
  | q + 1 => mixR L x q || (match L[q]? with | some y => mixA y x | none => false)
def crowdN (s : STA) (L : List AG) : Nat → Bool
  | 0 => false
  | k + 1 => crowdN s L k || (match L[k]? with | some x => crowdA s L x | none => false)
def wrongN (s : STA) (L : List AG) : Nat → Bool
  | 0 => false
  | k + 1 => wrongN s L k || (match L[k]? with | some x => wrongA s x | none => false)
def mixN (L : List AG) : Nat → Bool
  | 0 => false
  | k + 1 => mixN L k || (match L[k]? with | some x => mixR L x k | none => false)
def whyK (s : STA) (L : List AG) (k : Nat) : Int := mn (mn (mn 7 2 (crowdN s L k)) 3 (wrongN s L k)) 4 (mixN L k)
theorem mn_step : ∀ a b c d e f : Bool, mn (mn (mn (mn (mn (mn 7 2 a) 3 b) 4 c) 2 d) 3 e) 4 f = mn (mn (mn 7 2 (a || d)) 3 (b || e)) 4 (c || f) := by decide
theorem mn_or : ∀ (v n : Int) (a b : Bool), mn (mn v n a) n b = mn v n (a || b) := by
  intro v n a b
  cases a <;> cases b <;> simp [mn]
theorem whyK_step {s : STA} {L : List AG} {k : Nat} (h : k < L.length) : whyK s L (k + 1) = mn (mn (mn (whyK s L k) 2 (crowdA s L L[k])) 3 (wrongA s L[k])) 4 (mixR L L[k] k) := by
  unfold whyK
  rw [crowdN, wrongN, mixN, List.getElem?_eq_getElem h]
  exact (mn_step _ _ _ _ _ _).symm
theorem whyK_skip {s : STA} {L : List AG} {k : Nat} (h : k < L.length) (hh : hasA L[k] = false) : whyK s L (k + 1) = whyK s L k := by
  rw [whyK_step h]
  have h1 : crowdA s L L[k] = false := by unfold crowdA; rw [hh]; rfl
  have h2 : wrongA s L[k] = false := by unfold wrongA; rw [hh]; rfl
  have h3 : ∀ q, mixR L L[k] q = false := by
    intro q
    induction q with
    | zero => rfl
    | succ q ih =>
      rw [mixR, ih]
      cases L[q]? with
      | none => rfl
      | some y => simp only [mixA_no (x := y) (.inr hh)]; rfl
  rw [h1, h2, h3]
  rfl
theorem mn_lt (v n : Int) (b : Bool) (h : v ≤ 7) : mn v n b ≤ 7 := by unfold mn; split <;> omega
theorem mn_gt (v n : Int) (b : Bool) (h : 0 < v) (hn : 0 < n) : 0 < mn v n b := by unfold mn; split <;> omega
theorem whyK_range (s : STA) (L : List AG) (k : Nat) : 0 < whyK s L k ∧ whyK s L k ≤ 7 := by
  unfold whyK
  exact ⟨mn_gt _ _ _ (mn_gt _ _ _ (mn_gt _ _ _ (by decide) (by decide)) (by decide)) (by decide), mn_lt _ _ _ (mn_lt _ _ _ (mn_lt _ _ _ (by decide)))⟩
theorem anyK {α : Type} (p : α → Bool) (L : List α) (f : Nat → Bool) (h0 : f 0 = false) (hs : ∀ k (h : k < L.length), f (k + 1) = (f k || p L[k])) : ∀ k, k ≤ L.length → f k = (L.take k).any p
  | 0, _ => by rw [h0]; rfl
  | k + 1, h => by
    rw [hs k (by omega), anyK p L f h0 hs k (by omega), List.take_add_one, List.getElem?_eq_getElem (by omega), List.any_append]
    simp
theorem mixA_symm (x y : AG) : mixA x y = mixA y x := by
  unfold mixA
  congr 1
  · exact Bool.and_comm _ _
  · congr 1
    · exact decide_eq_decide.2 ⟨Eq.symm, Eq.symm⟩
    · exact bne_comm
theorem mixA_irr (x : AG) : mixA x x = false := by unfold mixA; simp
theorem mixN_true {L : List AG} : ∀ k, k ≤ L.length → (mixN L k = true ↔ ∃ i j, ∃ (hi : i < L.length) (hj : j < L.length), j < i ∧ i < k ∧ mixA L[j] L[i] = true)
  | 0, _ => by
    constructor
    · intro h; cases h
    · rintro ⟨i, j, _, _, _, h, _⟩; omega
  | k + 1, hk => by
    have ih := mixN_true (L := L) k (by omega)
    rw [mixN, List.getElem?_eq_getElem (show k < L.length by omega)]
    simp only [Bool.or_eq_true, ih]
    have hm : ∀ q, q ≤ L.length → mixR L L[k] q = (L.take q).any fun y => mixA y L[k] := anyK (fun y => mixA y L[k]) L (mixR L L[k]) rfl (fun q h => by rw [mixR, List.getElem?_eq_getElem h])
    rw [hm k (by omega)]
    constructor
    · rintro (⟨i, j, hi, hj, h1, h2, h3⟩ | h)
      · exact ⟨i, j, hi, hj, h1, by omega, h3⟩
      · obtain ⟨y, hy, he⟩ := List.any_eq_true.1 h
        obtain ⟨j, hj, rfl⟩ := List.getElem_of_mem hy
        rw [List.length_take] at hj
        rw [List.getElem_take] at he
        exact ⟨k, j, by omega, by omega, by omega, by omega, he⟩
    · rintro ⟨i, j, hi, hj, h1, h2, h3⟩
      by_cases e : i = k
      · subst e
        refine .inr (List.any_eq_true.2 ⟨L[j], ?_, h3⟩)
        rw [List.mem_take_iff_getElem]
        exact ⟨j, by omega, rfl⟩
      · exact .inl ⟨i, j, hi, hj, h1, by omega, h3⟩
theorem mixN_all (L : List AG) : mixN L L.length = mixL L := by
  rw [Bool.eq_iff_iff, mixN_true _ (Nat.le_refl _)]
  unfold mixL
  rw [List.any_eq_true]
  constructor
  · rintro ⟨i, j, hi, hj, h1, h2, h3⟩
    exact ⟨L[j], List.getElem_mem _, List.any_eq_true.2 ⟨L[i], List.getElem_mem _, h3⟩⟩
  · rintro ⟨x, hx, h⟩
    obtain ⟨y, hy, he⟩ := List.any_eq_true.1 h
    obtain ⟨i, hi, rfl⟩ := List.getElem_of_mem hx
    obtain ⟨j, hj, rfl⟩ := List.getElem_of_mem hy
    rcases Nat.lt_trichotomy i j with hij | hij | hij
    · exact ⟨j, i, hj, hi, hij, hj, he⟩
    · subst hij
      rw [mixA_irr] at he; cases he
    · exact ⟨i, j, hi, hj, hij, hi, by rw [mixA_symm]; exact he⟩
def whyR (s : STA) (L : List AG) (o : Option SS) : Int := if mn (whyK s L L.length) 5 (lostK s o s.jn) = 7 then 0 else mn (whyK s L L.length) 5 (lostK s o s.jn)
theorem whyR_eq (s : STA) (L : List AG) (o : Option SS) (h : ∀ x ∈ L, strayA s x = false) : whyN s L o true = whyR s L o := by
  have h1 : crowdN s L L.length = crowdL s L := by
    rw [anyK (crowdA s L) L (crowdN s L) rfl (fun k hk => by rw [crowdN, List.getElem?_eq_getElem hk]) _ (Nat.le_refl _), List.take_length]
    rfl
  have h2 : wrongN s L L.length = L.any (wrongA s) := by
    rw [anyK (wrongA s) L (wrongN s L) rfl (fun k hk => by rw [wrongN, List.getElem?_eq_getElem hk]) _ (Nat.le_refl _), List.take_length]
  have h0 : L.any (strayA s) = false := List.any_eq_false.2 (fun x hx => by rw [h x hx]; simp)
  unfold whyR whyK whyN
  rw [h1, h2, mixN_all]
  simp only [faultB]
  rw [h0]
  generalize crowdL s L = a
  generalize L.any (wrongA s) = b
  generalize mixL L = c
  generalize lostK s o s.jn = d
  revert a b c d
  decide
theorem whyN_stray (s : STA) (L : List AG) (o : Option SS) {k : Nat} (hk : k < L.length) (h : strayA s L[k] = true) : whyN s L o true = 1 := by
  have h0 : L.any (strayA s) = true := List.any_eq_true.2 ⟨L[k], List.getElem_mem _, h⟩
  unfold whyN
  simp only [faultB]
  rw [h0]
  rfl
end Go.Proofs.Ytilobmefomoemaa

namespace Go.Proofs.Ytilobmefomoemaa
set_option linter.unusedVariables false
set_option linter.unusedSimpArgs false
open Go.RowKit
theorem mn_no (v n : Int) : mn v n false = v := rfl
theorem mn_yes {v n : Int} (h : decide (n < v) = true) : mn v n true = n := by
  have := of_decide_eq_true h
  unfold mn; rw [if_pos rfl]; omega
theorem mn_kept {v n : Int} (h : decide (n < v) = false) : mn v n true = v := by
  have := of_decide_eq_false h
  unfold mn; rw [if_pos rfl]; omega
theorem strayA_no {s : STA} {x : AG} (h1 : decide (s.term < x.term) = false) (h2 : hasA x = false) : strayA s x = false := by unfold strayA; rw [h1, h2]; rfl
section
variable {w0 w : World} {tl : List Thing} {h : Nat} {q : QS}
set_option maxRecDepth 10000 in
set_option maxHeartbeats 12800000 in
theorem rtWhy (S : St w0 w (rstT h q :: tl)) (o : SS) (R : RelS o q) (hql : q.L.length ≤ 100000) (c : CF) (s : STA) (la : Option Addr) (ln lc : Nat) (L : List AG) (hs : s.At w) (hF : RRF c s) (hn : L.length = ln) (hln : ln ≤ 1000000) (hA : AtG eAG w la L) :
    Calls Try.prog 17 #[.agg #[.int .i64 c.nodes, .int .i64 c.queues, .int .i64 c.quota, .int .i64 c.wave, .int .i64 c.lease, .int .i64 c.retry, .int .i64 c.deadline, .int .i64 c.room, .int .i64 c.disk], .agg #[.slice s.na s.nn s.nc, .slice s.ja s.jn s.jc, .int .i64 s.goal, .int .i64 s.prior, .int .i64 s.mode, .int .i64 s.term], .slice la ln lc, .pointer (some ⟨h, 0, none⟩)] w fun e w' => e = .returned (.int .i64 (whyN s L (some o) true)) ∧ Below w.heap.size w w' := by
  have S1 : St w _ [cellsT w.heap.size 38 c.cs, cellsT (w.heap.size + 1) 25 s.cs] := ((St.start w).newAt 38 #[.int .i64 c.nodes, .int .i64 c.queues, .int .i64 c.quota, .int .i64 c.wave, .int .i64 c.lease, .int .i64 c.retry, .int .i64 c.deadline, .int .i64 c.room, .int .i64 c.disk] w.heap.size rfl).newAt 25 #[.slice s.na s.nn s.nc, .slice s.ja s.jn s.jc, .int .i64 s.goal, .int .i64 s.prior, .int .i64 s.mode, .int .i64 s.term] (w.heap.size + 1) (alloc_size _ _)
  have HS := hid hs
  have HF := hid hF
  have HA := hid hA
  have HN := hid hn
  have HR := hid R
  have hj24 : s.jn ≤ 24 := HF.out.jn
  clear hs hF hA hn R
  go_enter Try.func17, Try.ntmps17
  go_wp2_with fail
  generalize w.heap.size + 1 = g3 at *
  generalize w.heap.size = g2 at *
  generalize (w.alloc _).alloc _ = w1 at *
  go_loopw [9, 10, 11, 12, 13] (fun v i z1 z2 z3 wr => ∃ (k : Nat) (x1 x2 x3 : Value), k ≤ ln ∧ v = .int .i64 (whyK s L k) ∧ i = .int .i64 k ∧ z1 = x1 ∧ z2 = x2 ∧ z3 = x3 ∧ (∀ m (h : m < L.length), m < k → strayA s L[m] = false) ∧ St w wr [cellsT g2 38 c.cs, cellsT g3 25 s.cs]) (fun _ i _ _ _ _ => ln - (intOf i).toNat)
  case atStart => exact ⟨0, _, _, _, Nat.zero_le _, rfl, rfl, rfl, rfl, rfl, fun m _ h => by omega, S1⟩
  case round =>
    obtain ⟨k, x1, x2, x3, hk, rfl, rfl, rfl, rfl, rfl, hns, Sk⟩ := hrel
    have HNS := hid hns
    clear hns S1
    obtain ⟨y0, y1, y2, y3, y4, y5⟩ := Sk.sC 1 rfl
    by_cases hlt : k < ln
    case pos =>
      have g0 : decide ((k : Int) < (ln : Int)) = true := decide_eq_true (by omega)
      have g0n : decide (k < ln) = true := decide_eq_true (by omega)
      have hkl : k < L.length := by rw [HN.out]; exact hlt
      have i0 := fun wx => idxAG la ln lc (fun h => HA.out.ok (by rw [HN.out]; exact h)) k hlt wx
      obtain ⟨a0, a1, a2, a3, a4, a5, a6, a7, a8, a9⟩ := (HA.out.all eAGok Sk.fin).agAt hkl
      have HStray := hid (fun h => whyN_stray s L (some o) hkl h)
      have HSkip := hid (fun h => whyK_skip (s := s) hkl h)
      have HStep := hid (whyK_step (s := s) hkl)
      have HNS2 : Hid (strayA s L[k] = false → ∀ m (h : m < L.length), m < k + 1 → strayA s L[m] = false) := by
        intro hx m hml hmk
        by_cases e : m = k
        · subst e; exact hx
        · exact HNS.out m hml (by omega)
      generalize L[k] = x at *
      generalize adr la (k * 10) = A at *
      obtain ⟨v, hv⟩ : ∃ v, whyK s L k = v := ⟨_, rfl⟩
      rw [hv] at HSkip HStep ⊢
      clear hv HNS
      have S3 : St w _ [cellsT g2 38 c.cs, cellsT g3 25 s.cs, cellsT wr.heap.size 31 x.cs] := Sk.newAt 31 #[.bool x.up, .int .i64 x.term, .int .i64 x.gen, .int .i64 x.mode, .int .i64 x.job, .int .i64 x.inc, .int .i64 x.version, .int .i64 x.lease, .int .i64 x.worked, .int .i64 x.to_] wr.heap.size rfl
      obtain ⟨v0, v1, v2, v3, v4, v5⟩ := S3.sC 1 rfl
      cases t1 : decide (s.term < x.term)
      case true =>
        have E : Hid (whyN s L (some o) true = 1) := HStray.out (by unfold strayA; rw [t1]; rfl)
        go_wp2
        go_ret
        exact ⟨by rw [E.out]; rfl, S3.fin⟩
      go_wp2_with fail
      generalize wr.heap.size = g4 at *
      generalize wr.alloc _ = w3 at *
      clear a0 a1 a2 a3 a4 a5 a6 a7 a8 a9 y0 y1 y2 y3 y4 y5 i0 Sk v0 v1 v2 v3 v4 v5
      refine (rtHas x _).mono ?_
      rintro e w4 ⟨rfl, hb4⟩
      have S4 := S3.grow hb4
      clear S3 hb4
      cases hh : hasA x
      · have E := hid (HSkip.out hh)
        have E2 := hid (HNS2.out (strayA_no t1 hh))
        clear hh t1 HStep HStray HSkip HNS2
        go_wp2
        go_roundw
        case rel => exact ⟨k + 1, _, _, _, by omega, by rw [E.out], by go_num, rfl, rfl, rfl, E2.out, S4.take 2⟩
        case measure => simp [intOf]; omega
      have HH := hid hh
      clear hh HSkip
      have S5 := S4
      obtain ⟨y0, y1, y2, y3, y4, y5⟩ := S5.sC 1 rfl
      have a4 := S5.cell 2 rfl 4 rfl
      have a5 := S5.cell 2 rfl 5 rfl
      cases b1 : decide (x.job < 1)
      case true =>
        have E : Hid (whyN s L (some o) true = 1) := HStray.out (by unfold strayA isJ; rw [t1, HH.out, decide_eq_false (show ¬ 1 ≤ x.job by have := of_decide_eq_true b1; omega)]; rfl)
        go_wp2
        go_ret
        exact ⟨by rw [E.out]; rfl, S5.fin⟩
      cases b2 : decide ((s.jn : Int) < x.job)
      case true =>
        have E : Hid (whyN s L (some o) true = 1) := HStray.out (by unfold strayA isJ; rw [t1, HH.out, decide_eq_false (show ¬ x.job ≤ s.jn by have := of_decide_eq_true b2; omega)]; simp)
        go_wp2
        go_ret
        exact ⟨by rw [E.out]; rfl, S5.fin⟩
      obtain ⟨J, hJ⟩ : ∃ J : Nat, x.job = J + 1 := ⟨(x.job - 1).toNat, by have := of_decide_eq_false b1; omega⟩
      have hJn : J < s.jn := by have := of_decide_eq_false b2; omega
      have hlJ : J < s.J.length := by rw [HS.out.jn]; exact hJn
      have i1 := fun wx => idxJB s.ja s.jn s.jc (fun h => HS.out.j.ok (by rw [HS.out.jn]; exact h)) J J rfl hJn wx
      have hisJ : Hid (isJ s x.job = true) := by unfold isJ; rw [Hid, hJ, decide_eq_true (by omega), decide_eq_true (by omega)]; rfl
      have hjob : Hid (s.J[(x.job - 1).toNat]? = some s.J[J]) := by rw [Hid, show (x.job - 1).toNat = J by omega, List.getElem?_eq_getElem hlJ]
      obtain ⟨j0, j1, j2, j3, j4, j5, j6, j7, j8, j9, j10, j11⟩ := (HS.out.j.all eJBok S5.fin).jbAt hlJ
      have HPin := (HF.out.job J hlJ).asked.pin
      generalize s.J[J] = j at *
      generalize adr s.ja (J * 12) = B at *
      have hinc : Hid (incOf s x.job = j.inc) := by unfold incOf jobOf; rw [Hid, hjob.out]
      have hmax : Hid (maxOf s x.job = j.hi) := by unfold maxOf; rw [Hid, hjob.out]
      have hpin : Hid (pinOf s x.job = j.pin) := by unfold pinOf jobOf; rw [Hid, hjob.out]
      have HJ := hid hJ
      have HT1 := hid t1
      rw [hJ] at a4
      clear t1
      have S6 : St w _ [cellsT g2 38 c.cs, cellsT g3 25 s.cs, cellsT g4 31 x.cs, cellsT w4.heap.size 52 j.cs] := S5.newAt 52 #[.int .i64 j.queue, .int .i64 j.prio, .int .i64 j.lo, .int .i64 j.hi, .int .i64 j.work, .int .i64 j.pin, .int .i64 j.phase, .int .i64 j.inc, .int .i64 j.nodes, .int .i64 j.since, .int .i64 j.until_, .int .i64 j.epoch] w4.heap.size rfl
      have z5 := S6.cell 2 rfl 5 rfl
      cases t2 : decide (j.inc < x.inc)
      case true =>
        have E : Hid (whyN s L (some o) true = 1) := HStray.out (by unfold strayA; rw [HT1.out, HH.out, hisJ.out, hinc.out, t2]; rfl)
        go_wp2
        go_ret
        exact ⟨by rw [E.out]; rfl, S6.fin⟩
      have hnostray : Hid (strayA s x = false) := by rw [Hid]; unfold strayA; rw [HT1.out, HH.out, hisJ.out, hinc.out, t2]; rfl
      have HNS3 := hid (HNS2.out hnostray.out)
      clear HNS2 HStray hnostray
      go_wp2_with fail
      clear hJ
      generalize w4.heap.size = g5 at *
      generalize w4.alloc _ = w5 at *
      clear a4 a5 z5 y0 y1 y2 y3 y4 y5 i1 S4 S5 j0 j1 j2 j3 j4 j5 j6 j7 j8 j9 j10 j11 b1 b2 t2 HT1
      have keep : ∀ {w' : World}, St w w' [cellsT g2 38 c.cs, cellsT g3 25 s.cs, cellsT g4 31 x.cs, cellsT g5 52 j.cs] → (w'.cell? ⟨g4, 4, none⟩ = some (.int .i64 x.job) ∧ w'.cell? ⟨g4, 5, none⟩ = some (.int .i64 x.inc) ∧ w'.cell? ⟨g4, 6, none⟩ = some (.int .i64 x.version) ∧ w'.cell? ⟨g5, 3, none⟩ = some (.int .i64 j.hi) ∧ w'.cell? ⟨g5, 5, none⟩ = some (.int .i64 j.pin)) := fun S => ⟨S.cell 2 rfl 4 rfl, S.cell 2 rfl 5 rfl, S.cell 2 rfl 6 rfl, S.cell 3 rfl 3 rfl, S.cell 3 rfl 5 rfl⟩
      obtain ⟨cb, hcb⟩ : ∃ cb, decide (j.hi < (cntG L x.job x.inc : Int)) = cb := ⟨_, rfl⟩
      obtain ⟨wb, hwb⟩ : ∃ wb, (decide (0 < j.pin) && (x.version != j.pin)) = wb := ⟨_, rfl⟩
      have hC : Hid (crowdA s L x = cb) := by unfold crowdA; rw [Hid, HH.out, hisJ.out, hmax.out, hcb]; rfl
      have hW : Hid (wrongA s x = wb) := by
        unfold wrongA
        rw [Hid, HH.out, hisJ.out, hpin.out, ← hwb]
        have e1 : (!(j.pin == 0)) = decide (0 < j.pin) := by
          rw [Bool.eq_iff_iff]; simp; omega
        have e2 : (!(j.pin == x.version)) = (x.version != j.pin) := by
          rw [Bool.eq_iff_iff]; simp; exact ⟨fun h e => h e.symm, fun h e => h e.symm⟩
        rw [e1, e2]; rfl
      have HC := hid hcb
      have HW := hid hwb
      obtain ⟨v2, hv2⟩ : ∃ v2, mn v 2 cb = v2 := ⟨_, rfl⟩
      obtain ⟨v3, hv3⟩ : ∃ v3, mn v2 3 wb = v3 := ⟨_, rfl⟩
      have HV2 := hid hv2
      have HV3 := hid hv3
      have HStep2 : Hid (whyK s L (k + 1) = mn v3 4 (mixR L x k)) := by rw [Hid, HStep.out, hC.out, hW.out, hv2, hv3]
      obtain ⟨p2, hp2⟩ : ∃ p2, decide (2 < v) = p2 := ⟨_, rfl⟩
      obtain ⟨p3, hp3⟩ : ∃ p3, decide (3 < v2) = p3 := ⟨_, rfl⟩
      have HP2 := hid hp2
      have HP3 := hid hp3
      clear hcb hwb hC hW hv2 hv3 HStep hp2 hp3 hinc hmax hpin hisJ hjob
      go_upto_region 14 with fail
      go_cut [70] from 17 to 69 (fun s70 wc => s70 = .bool (cb && p2) ∧ St w wc [cellsT g2 38 c.cs, cellsT g3 25 s.cs, cellsT g4 31 x.cs, cellsT g5 52 j.cs])
      case first =>
        have cbv := HC.out
        have pv := HP2.out
        cases cb
        · go_wp2_with fail
          refine wp_region_held_drew (S := (fun w' => (w'.cell? ⟨g4, 4, none⟩ = some (.int .i64 x.job) ∧ w'.cell? ⟨g4, 5, none⟩ = some (.int .i64 x.inc) ∧ w'.cell? ⟨g4, 6, none⟩ = some (.int .i64 x.version) ∧ w'.cell? ⟨g5, 3, none⟩ = some (.int .i64 j.hi) ∧ w'.cell? ⟨g5, 5, none⟩ = some (.int .i64 j.pin)))) (by kernel_rfl) (by exact keep S6.drew) (fun hHeld => ?_)
          change wpAnyH _ _ _ _ _ 13 (Array.replicate 13 false) _ _
          refine wpAnyH_take (i := 0) (v := ?v1) (ops_at rfl) (by kernel_rfl) (by kernel_rfl) (by kernel_rfl) (fun _ _ _ h => h) (Or.inl ⟨by rfl, ?hy1⟩) (by assumption) ?rest1
          case hy1 => intro w' hSw; (try dsimp only at hSw); go_simp; try with_reducible rfl
          try simp only [Act.put, List.setIfInBounds_toArray, List.set_cons_zero, List.set_cons_succ]
          refine wpAnyH_take (i := 1) (v := ?v2) (ops_at rfl) (by kernel_rfl) (by kernel_rfl) (by kernel_rfl) (fun _ _ _ h => h) (Or.inl ⟨by rfl, ?hy2⟩) (by assumption) ?rest2
          case hy2 => intro w' hSw; (try dsimp only at hSw); go_simp; try with_reducible rfl
          try simp only [Act.put, List.setIfInBounds_toArray, List.set_cons_zero, List.set_cons_succ]
          refine wpAnyH_take (i := 2) (v := ?v3) (ops_at rfl) (by kernel_rfl) (by kernel_rfl) (by kernel_rfl) (fun _ _ _ h => h) (Or.inl ⟨by rfl, ?hy3⟩) (by assumption) ?rest3
          case hy3 => intro w' hSw; (try dsimp only at hSw); go_simp; try with_reducible rfl
          try simp only [Act.put, List.setIfInBounds_toArray, List.set_cons_zero, List.set_cons_succ]
          refine wpAnyH_take (i := 3) (v := ?v4) (ops_at rfl) (by kernel_rfl) (by kernel_rfl) (by kernel_rfl) (fun _ _ _ h => h) (Or.inl ⟨by rfl, ?hy4⟩) (by assumption) ?rest4
          case hy4 => intro w' hSw; (try dsimp only at hSw); go_simp; try with_reducible rfl
          try simp only [Act.put, List.setIfInBounds_toArray, List.set_cons_zero, List.set_cons_succ]
          refine wpAnyH_take (i := 4) (v := ?v5) (ops_at rfl) (by kernel_rfl) (by kernel_rfl) (by kernel_rfl) (fun _ _ _ h => h) (Or.inl ⟨by rfl, ?hy5⟩) (by assumption) ?rest5
          case hy5 => intro w' hSw; (try dsimp only at hSw); go_simp; try with_reducible rfl
          try simp only [Act.put, List.setIfInBounds_toArray, List.set_cons_zero, List.set_cons_succ]
          refine wpAnyH_take (i := 6) (v := ?v6) (ops_at rfl) (by kernel_rfl) (by kernel_rfl) (by kernel_rfl) (fun _ _ _ h => h) (Or.inl ⟨by rfl, ?hy6⟩) (by assumption) ?rest6
          case hy6 => intro w' hSw; (try dsimp only at hSw); go_simp; try with_reducible rfl
          try simp only [Act.put, List.setIfInBounds_toArray, List.set_cons_zero, List.set_cons_succ]
          refine wpAnyH_take (i := 7) (v := ?v7) (ops_at rfl) (by kernel_rfl) (by kernel_rfl) (by kernel_rfl) (fun _ _ _ h => h) (Or.inl ⟨by rfl, ?hy7⟩) (by assumption) ?rest7
          case hy7 => intro w' hSw; (try dsimp only at hSw); go_simp; try with_reducible rfl
          try simp only [Act.put, List.setIfInBounds_toArray, List.set_cons_zero, List.set_cons_succ]
          refine wpAnyH_ready (rs := [5]) (by kernel_rfl) (by simp) ?_
          refine AllReadyH.cons (ops_at rfl) (fun K hK => ?_) AllReadyH.nil
          go_simp
          refine (rtCount la L ln lc x.job x.inc _ HN.out hln (HA.out.all eAGok S6.drew.fin)).mono ?_
          rintro e w6 ⟨rfl, hb6⟩
          have S7 := S6.drew.grow hb6
          refine hK.out _ _ (by exact keep S7) (fun hHeld => ?_)
          clear hK K
          try simp only [Act.put, List.setIfInBounds_toArray, List.set_cons_zero, List.set_cons_succ]
          refine wpAnyH_take (i := 8) (v := ?v9) (ops_at rfl) (by kernel_rfl) (by kernel_rfl) (by kernel_rfl) (fun _ _ _ h => h) (Or.inl ⟨by rfl, ?hy9⟩) (by assumption) ?rest9
          case hy9 => intro w' hSw; (try dsimp only at hSw); go_simp; try with_reducible rfl
          try simp only [Act.put, List.setIfInBounds_toArray, List.set_cons_zero, List.set_cons_succ]
          refine wpAnyH_take (i := 9) (v := ?v10) (ops_at rfl) (by kernel_rfl) (by kernel_rfl) (by kernel_rfl) (fun _ _ _ h => h) (Or.inl ⟨by rfl, ?hy10⟩) (by assumption) ?rest10
          case hy10 => intro w' hSw; (try dsimp only at hSw); go_simp; try with_reducible rfl
          try simp only [Act.put, List.setIfInBounds_toArray, List.set_cons_zero, List.set_cons_succ]
          refine wpAnyH_take (i := 10) (v := undef) (ops_at rfl) (by kernel_rfl) (by kernel_rfl) (by kernel_rfl) (fun _ _ _ h => h) (Or.inr ⟨by rfl, rfl⟩) (by assumption) ?rest11
          try simp only [Act.put, List.setIfInBounds_toArray, List.set_cons_zero, List.set_cons_succ]
          refine wpAnyH_take (i := 11) (v := undef) (ops_at rfl) (by kernel_rfl) (by kernel_rfl) (by kernel_rfl) (fun _ _ _ h => h) (Or.inr ⟨by rfl, rfl⟩) (by assumption) ?rest12
          try simp only [Act.put, List.setIfInBounds_toArray, List.set_cons_zero, List.set_cons_succ]
          refine wpAnyH_take (i := 12) (v := ?v13) (ops_at rfl) (by kernel_rfl) (by kernel_rfl) (by kernel_rfl) (fun _ _ _ h => h) (Or.inl ⟨by rfl, ?hy13⟩) (by assumption) ?rest13
          case hy13 => intro w' hSw; (try dsimp only at hSw); go_simp; try with_reducible rfl
          try simp only [Act.put, List.setIfInBounds_toArray, List.set_cons_zero, List.set_cons_succ]
          refine wpAnyH_done (by kernel_rfl) ?_ _
          go_wp2_with fail
          go_meet
          exact ⟨rfl, S7⟩
        · go_wp2_with fail
          refine wp_region_held_drew (S := (fun w' => (w'.cell? ⟨g4, 4, none⟩ = some (.int .i64 x.job) ∧ w'.cell? ⟨g4, 5, none⟩ = some (.int .i64 x.inc) ∧ w'.cell? ⟨g4, 6, none⟩ = some (.int .i64 x.version) ∧ w'.cell? ⟨g5, 3, none⟩ = some (.int .i64 j.hi) ∧ w'.cell? ⟨g5, 5, none⟩ = some (.int .i64 j.pin)))) (by kernel_rfl) (by exact keep S6.drew) (fun hHeld => ?_)
          change wpAnyH _ _ _ _ _ 13 (Array.replicate 13 false) _ _
          refine wpAnyH_take (i := 0) (v := ?v14) (ops_at rfl) (by kernel_rfl) (by kernel_rfl) (by kernel_rfl) (fun _ _ _ h => h) (Or.inl ⟨by rfl, ?hy14⟩) (by assumption) ?rest14
          case hy14 => intro w' hSw; (try dsimp only at hSw); go_simp; try with_reducible rfl
          try simp only [Act.put, List.setIfInBounds_toArray, List.set_cons_zero, List.set_cons_succ]
          refine wpAnyH_take (i := 1) (v := ?v15) (ops_at rfl) (by kernel_rfl) (by kernel_rfl) (by kernel_rfl) (fun _ _ _ h => h) (Or.inl ⟨by rfl, ?hy15⟩) (by assumption) ?rest15
          case hy15 => intro w' hSw; (try dsimp only at hSw); go_simp; try with_reducible rfl
          try simp only [Act.put, List.setIfInBounds_toArray, List.set_cons_zero, List.set_cons_succ]
          refine wpAnyH_take (i := 2) (v := ?v16) (ops_at rfl) (by kernel_rfl) (by kernel_rfl) (by kernel_rfl) (fun _ _ _ h => h) (Or.inl ⟨by rfl, ?hy16⟩) (by assumption) ?rest16
          case hy16 => intro w' hSw; (try dsimp only at hSw); go_simp; try with_reducible rfl
          try simp only [Act.put, List.setIfInBounds_toArray, List.set_cons_zero, List.set_cons_succ]
          refine wpAnyH_take (i := 3) (v := ?v17) (ops_at rfl) (by kernel_rfl) (by kernel_rfl) (by kernel_rfl) (fun _ _ _ h => h) (Or.inl ⟨by rfl, ?hy17⟩) (by assumption) ?rest17
          case hy17 => intro w' hSw; (try dsimp only at hSw); go_simp; try with_reducible rfl
          try simp only [Act.put, List.setIfInBounds_toArray, List.set_cons_zero, List.set_cons_succ]
          refine wpAnyH_take (i := 4) (v := ?v18) (ops_at rfl) (by kernel_rfl) (by kernel_rfl) (by kernel_rfl) (fun _ _ _ h => h) (Or.inl ⟨by rfl, ?hy18⟩) (by assumption) ?rest18
          case hy18 => intro w' hSw; (try dsimp only at hSw); go_simp; try with_reducible rfl
          try simp only [Act.put, List.setIfInBounds_toArray, List.set_cons_zero, List.set_cons_succ]
          refine wpAnyH_take (i := 6) (v := ?v19) (ops_at rfl) (by kernel_rfl) (by kernel_rfl) (by kernel_rfl) (fun _ _ _ h => h) (Or.inl ⟨by rfl, ?hy19⟩) (by assumption) ?rest19
          case hy19 => intro w' hSw; (try dsimp only at hSw); go_simp; try with_reducible rfl
          try simp only [Act.put, List.setIfInBounds_toArray, List.set_cons_zero, List.set_cons_succ]
          refine wpAnyH_take (i := 7) (v := ?v20) (ops_at rfl) (by kernel_rfl) (by kernel_rfl) (by kernel_rfl) (fun _ _ _ h => h) (Or.inl ⟨by rfl, ?hy20⟩) (by assumption) ?rest20
          case hy20 => intro w' hSw; (try dsimp only at hSw); go_simp; try with_reducible rfl
          try simp only [Act.put, List.setIfInBounds_toArray, List.set_cons_zero, List.set_cons_succ]
          refine wpAnyH_ready (rs := [5]) (by kernel_rfl) (by simp) ?_
          refine AllReadyH.cons (ops_at rfl) (fun K hK => ?_) AllReadyH.nil
          go_simp
          refine (rtCount la L ln lc x.job x.inc _ HN.out hln (HA.out.all eAGok S6.drew.fin)).mono ?_
          rintro e w6 ⟨rfl, hb6⟩
          have S7 := S6.drew.grow hb6
          refine hK.out _ _ (by exact keep S7) (fun hHeld => ?_)
          clear hK K
          try simp only [Act.put, List.setIfInBounds_toArray, List.set_cons_zero, List.set_cons_succ]
          refine wpAnyH_take (i := 8) (v := ?v22) (ops_at rfl) (by kernel_rfl) (by kernel_rfl) (by kernel_rfl) (fun _ _ _ h => h) (Or.inl ⟨by rfl, ?hy22⟩) (by assumption) ?rest22
          case hy22 => intro w' hSw; (try dsimp only at hSw); go_simp; try with_reducible rfl
          try simp only [Act.put, List.setIfInBounds_toArray, List.set_cons_zero, List.set_cons_succ]
          refine wpAnyH_take (i := 9) (v := ?v23) (ops_at rfl) (by kernel_rfl) (by kernel_rfl) (by kernel_rfl) (fun _ _ _ h => h) (Or.inl ⟨by rfl, ?hy23⟩) (by assumption) ?rest23
          case hy23 => intro w' hSw; (try dsimp only at hSw); go_simp; try with_reducible rfl
          try simp only [Act.put, List.setIfInBounds_toArray, List.set_cons_zero, List.set_cons_succ]
          refine wpAnyH_take (i := 10) (v := ?v24) (ops_at rfl) (by kernel_rfl) (by kernel_rfl) (by kernel_rfl) (fun _ _ _ h => h) (Or.inl ⟨by rfl, ?hy24⟩) (by assumption) ?rest24
          case hy24 => intro w' hSw; (try dsimp only at hSw); go_simp; try with_reducible rfl
          try simp only [Act.put, List.setIfInBounds_toArray, List.set_cons_zero, List.set_cons_succ]
          refine wpAnyH_take (i := 11) (v := ?v25) (ops_at rfl) (by kernel_rfl) (by kernel_rfl) (by kernel_rfl) (fun _ _ _ h => h) (Or.inl ⟨by rfl, ?hy25⟩) (by assumption) ?rest25
          case hy25 => intro w' hSw; (try dsimp only at hSw); go_simp; try with_reducible rfl
          try simp only [Act.put, List.setIfInBounds_toArray, List.set_cons_zero, List.set_cons_succ]
          refine wpAnyH_take (i := 12) (v := ?v26) (ops_at rfl) (by kernel_rfl) (by kernel_rfl) (by kernel_rfl) (fun _ _ _ h => h) (Or.inl ⟨by rfl, ?hy26⟩) (by assumption) ?rest26
          case hy26 => intro w' hSw; (try dsimp only at hSw); go_simp; try with_reducible rfl
          try simp only [Act.put, List.setIfInBounds_toArray, List.set_cons_zero, List.set_cons_succ]
          refine wpAnyH_done (by kernel_rfl) ?_ _
          go_wp2_with fail
          go_meet
          exact ⟨rfl, S7⟩
      case rest =>
      obtain ⟨rfl, S7⟩ := hcut
      clear S6
      go_upto_if 70 with fail
      go_cut [9] from 17 to 70 (fun s9 wc => s9 = .int .i64 v2 ∧ St w wc [cellsT g2 38 c.cs, cellsT g3 25 s.cs, cellsT g4 31 x.cs, cellsT g5 52 j.cs])
      case first =>
        cases cb
        · have E : Hid (v2 = v) := by rw [Hid, ← HV2.out, mn_no]
          rw [show (false && p2) = false from rfl]
          go_wp2_with fail
          go_meet
          exact ⟨by rw [E.out], S7⟩
        · cases p2
          · have E : Hid (v2 = v) := by rw [Hid, ← HV2.out, mn_kept HP2.out]
            rw [show (true && false) = false from rfl]
            go_wp2_with fail
            go_meet
            exact ⟨by rw [E.out], S7⟩
          · have E : Hid (v2 = 2) := by rw [Hid, ← HV2.out, mn_yes HP2.out]
            rw [show (true && true) = true from rfl]
            go_wp2_with fail
            go_meet
            exact ⟨by rw [E.out], S7⟩
      case rest =>
      obtain ⟨rfl, S8⟩ := hcut
      clear S7
      go_upto_region 16 with fail
      go_cut [84] from 17 to 83 (fun s84 wc => s84 = .bool (wb && p3) ∧ St w wc [cellsT g2 38 c.cs, cellsT g3 25 s.cs, cellsT g4 31 x.cs, cellsT g5 52 j.cs])
      case first =>
        have W := HW.out
        have pv := HP3.out
        obtain ⟨q1, q2, q3, q4, q5⟩ := keep S8
        cases c1 : decide (0 < j.pin)
        · have E : wb = false := by rw [← W, c1]; rfl
          clear W pv
          go_wp2_with fail
          go_meet
          exact ⟨by rw [E]; rfl, S8⟩
        · have E : wb = (x.version != j.pin) := by rw [← W, c1]; rfl
          cases c2 : (x.version != j.pin)
          · rw [c2] at E
            clear W pv
            have E2 := hid E
            clear E
            go_wp2_with fail
            go_meet
            exact ⟨by rw [E2.out]; rfl, S8⟩
          · rw [c2] at E
            have E2 := hid E
            clear W E
            go_wp2_with fail
            go_meet
            exact ⟨by rw [E2.out]; rfl, S8⟩
      case rest =>
      obtain ⟨rfl, S9⟩ := hcut
      clear S8
      go_upto_if 84 with fail
      go_cut [9] from 17 to 84 (fun s9 wc => s9 = .int .i64 v3 ∧ St w wc [cellsT g2 38 c.cs, cellsT g3 25 s.cs, cellsT g4 31 x.cs, cellsT g5 52 j.cs])
      case first =>
        cases wb
        · have E : Hid (v3 = v2) := by rw [Hid, ← HV3.out, mn_no]
          rw [show (false && p3) = false from rfl]
          go_wp2_with fail
          go_meet
          exact ⟨by rw [E.out], S9⟩
        · cases p3
          · have E : Hid (v3 = v2) := by rw [Hid, ← HV3.out, mn_kept HP3.out]
            rw [show (true && false) = false from rfl]
            go_wp2_with fail
            go_meet
            exact ⟨by rw [E.out], S9⟩
          · have E : Hid (v3 = 3) := by rw [Hid, ← HV3.out, mn_yes HP3.out]
            rw [show (true && true) = true from rfl]
            go_wp2_with fail
            go_meet
            exact ⟨by rw [E.out], S9⟩
      case rest =>
      obtain ⟨rfl, T1⟩ := hcut
      clear S9 keep HV2 HV3 HP2 HP3 HC HW
      go_wp2_with fail
      go_loopw [9, 13] (fun u i wr => ∃ m : Nat, m ≤ k ∧ u = .int .i64 (mn v3 4 (mixR L x m)) ∧ i = .int .i64 m ∧ St w wr [cellsT g2 38 c.cs, cellsT g3 25 s.cs, cellsT g4 31 x.cs, cellsT g5 52 j.cs]) (fun _ i _ => k - (intOf i).toNat)
      case atStart => exact ⟨0, Nat.zero_le _, rfl, rfl, T1⟩
      case round =>
        obtain ⟨m, hm, rfl, rfl, Sm⟩ := hrel
        clear T1
        by_cases hmk : m < k
        case neg =>
          have g1 : decide ((m : Int) < (k : Int)) = false := decide_eq_false (by omega)
          have g1n : decide (m < k) = false := decide_eq_false (by omega)
          have E : Hid (whyK s L (k + 1) = mn v3 4 (mixR L x m)) := by rw [Hid, HStep2.out, show k = m by omega]
          clear hmk hm
          go_wp2
          go_roundw
          case rel => exact ⟨k + 1, _, _, _, by omega, by rw [E.out], by go_num, rfl, rfl, rfl, HNS3.out, Sm.take 2⟩
          case measure => simp [intOf]; omega
        have g1 : decide ((m : Int) < (k : Int)) = true := decide_eq_true (by omega)
        have g1n : decide (m < k) = true := decide_eq_true (by omega)
        have hml : m < L.length := by omega
        have i0 := fun wx => idxAG la ln lc (fun h => HA.out.ok (by rw [HN.out]; exact h)) m (by omega) wx
        have HX : Hid (∀ w', St w w' [cellsT g2 38 c.cs, cellsT g3 25 s.cs, cellsT g4 31 x.cs, cellsT g5 52 j.cs] → AgAt w' (adr la (m * 10)) L[m]) := fun w' S => (HA.out.all eAGok S.fin).agAt hml
        have HM : Hid (mixR L x (m + 1) = (mixR L x m || mixA L[m] x)) := by rw [Hid, mixR, List.getElem?_eq_getElem hml]
        generalize L[m] = y at *
        generalize adr la (m * 10) = A at *
        generalize mixR L x m = b at *
        obtain ⟨u, hu⟩ : ∃ u, mn v3 4 b = u := ⟨_, rfl⟩
        have HU : Hid (mn v3 4 (mixR L x (m + 1)) = mn u 4 (mixA y x)) := by rw [Hid, HM.out, ← mn_or, hu]
        rw [hu]
        clear hu HM
        have keep : ∀ {w' : World}, St w w' [cellsT g2 38 c.cs, cellsT g3 25 s.cs, cellsT g4 31 x.cs, cellsT g5 52 j.cs] → ((w'.cell? A = some (.bool y.up) ∧ w'.cell? { block := A.block, off := A.off + 1 } = some (.int .i64 y.term) ∧ w'.cell? { block := A.block, off := A.off + 2 } = some (.int .i64 y.gen) ∧ w'.cell? { block := A.block, off := A.off + 3 } = some (.int .i64 y.mode) ∧ w'.cell? { block := A.block, off := A.off + 4 } = some (.int .i64 y.job) ∧ w'.cell? { block := A.block, off := A.off + 5 } = some (.int .i64 y.inc) ∧ w'.cell? { block := A.block, off := A.off + 6 } = some (.int .i64 y.version) ∧ w'.cell? { block := A.block, off := A.off + 7 } = some (.int .i64 y.lease) ∧ w'.cell? { block := A.block, off := A.off + 8 } = some (.int .i64 y.worked) ∧ w'.cell? { block := A.block, off := A.off + 9 } = some (.int .i64 y.to_)) ∧ (w'.cell? ⟨g4, 4, none⟩ = some (.int .i64 x.job) ∧ w'.cell? ⟨g4, 5, none⟩ = some (.int .i64 x.inc) ∧ w'.cell? ⟨g4, 6, none⟩ = some (.int .i64 x.version) ∧ w'.cell? ⟨g5, 3, none⟩ = some (.int .i64 j.hi) ∧ w'.cell? ⟨g5, 5, none⟩ = some (.int .i64 j.pin))) := fun S => ⟨HX.out _ S, S.cell 2 rfl 4 rfl, S.cell 2 rfl 5 rfl, S.cell 2 rfl 6 rfl, S.cell 3 rfl 3 rfl, S.cell 3 rfl 5 rfl⟩
        have HMx : Hid (mixA y x = (hasA y && ((y.job == x.job) && ((y.inc == x.inc) && (y.version != x.version))))) := by
          unfold mixA
          rw [Hid, HH.out, Bool.and_true]
          congr 1
          rw [← Bool.and_assoc]
          congr 1
          rw [Bool.eq_iff_iff]
          simp
        cases h1 : hasA y
        · have E : Hid (mn v3 4 (mixR L x (m + 1)) = u) := by rw [Hid, HU.out, HMx.out, h1]; rfl
          have HH1 := hid h1
          clear h1 HMx HU
          go_wp2_with fail
          refine wp_region_held_drew (S := (fun w' => ((w'.cell? A = some (.bool y.up) ∧ w'.cell? { block := A.block, off := A.off + 1 } = some (.int .i64 y.term) ∧ w'.cell? { block := A.block, off := A.off + 2 } = some (.int .i64 y.gen) ∧ w'.cell? { block := A.block, off := A.off + 3 } = some (.int .i64 y.mode) ∧ w'.cell? { block := A.block, off := A.off + 4 } = some (.int .i64 y.job) ∧ w'.cell? { block := A.block, off := A.off + 5 } = some (.int .i64 y.inc) ∧ w'.cell? { block := A.block, off := A.off + 6 } = some (.int .i64 y.version) ∧ w'.cell? { block := A.block, off := A.off + 7 } = some (.int .i64 y.lease) ∧ w'.cell? { block := A.block, off := A.off + 8 } = some (.int .i64 y.worked) ∧ w'.cell? { block := A.block, off := A.off + 9 } = some (.int .i64 y.to_)) ∧ (w'.cell? ⟨g4, 4, none⟩ = some (.int .i64 x.job) ∧ w'.cell? ⟨g4, 5, none⟩ = some (.int .i64 x.inc) ∧ w'.cell? ⟨g4, 6, none⟩ = some (.int .i64 x.version) ∧ w'.cell? ⟨g5, 3, none⟩ = some (.int .i64 j.hi) ∧ w'.cell? ⟨g5, 5, none⟩ = some (.int .i64 j.pin))))) (by kernel_rfl) (by exact keep Sm.drew) (fun hHeld => ?_)
          change wpAnyH _ _ _ _ _ 39 (Array.replicate 39 false) _ _
          refine wpAnyH_take (i := 0) (v := ?v27) (ops_at rfl) (by kernel_rfl) (by kernel_rfl) (by kernel_rfl) (fun _ _ _ h => h) (Or.inl ⟨by rfl, ?hy27⟩) (by assumption) ?rest27
          case hy27 => intro w' hSw; (try dsimp only at hSw); go_simp; try with_reducible rfl
          try simp only [Act.put, List.setIfInBounds_toArray, List.set_cons_zero, List.set_cons_succ]
          refine wpAnyH_take (i := 1) (v := ?v28) (ops_at rfl) (by kernel_rfl) (by kernel_rfl) (by kernel_rfl) (fun _ _ _ h => h) (Or.inl ⟨by rfl, ?hy28⟩) (by assumption) ?rest28
          case hy28 => intro w' hSw; (try dsimp only at hSw); go_simp; try with_reducible rfl
          try simp only [Act.put, List.setIfInBounds_toArray, List.set_cons_zero, List.set_cons_succ]
          refine wpAnyH_ready (rs := [2]) (by kernel_rfl) (by simp) ?_
          refine AllReadyH.cons (ops_at rfl) (fun K hK => ?_) AllReadyH.nil
          go_simp
          refine hK.out _ _ (by exact keep Sm.drew) (fun hHeld => ?_)
          clear hK K
          try simp only [Act.put, List.setIfInBounds_toArray, List.set_cons_zero, List.set_cons_succ]
          refine wpAnyH_take (i := 3) (v := ?v29) (ops_at rfl) (by kernel_rfl) (by kernel_rfl) (by kernel_rfl) (fun _ _ _ h => h) (Or.inl ⟨by rfl, ?hy29⟩) (by assumption) ?rest29
          case hy29 => intro w' hSw; (try dsimp only at hSw); go_simp; try with_reducible rfl
          try simp only [Act.put, List.setIfInBounds_toArray, List.set_cons_zero, List.set_cons_succ]
          refine wpAnyH_ready (rs := [4]) (by kernel_rfl) (by simp) ?_
          refine AllReadyH.cons (ops_at rfl) (fun K hK => ?_) AllReadyH.nil
          go_simp
          refine (rtHas y _).mono ?_
          rintro e w6 ⟨rfl, hb6⟩
          rw [HH1.out]
          have S7 := Sm.drew.grow hb6
          refine hK.out _ _ (by exact keep S7) (fun hHeld => ?_)
          clear hK K
          try simp only [Act.put, List.setIfInBounds_toArray, List.set_cons_zero, List.set_cons_succ]
          refine wpAnyH_take (i := 5) (v := ?v31) (ops_at rfl) (by kernel_rfl) (by kernel_rfl) (by kernel_rfl) (fun _ _ _ h => h) (Or.inl ⟨by rfl, ?hy31⟩) (by assumption) ?rest31
          case hy31 => intro w' hSw; (try dsimp only at hSw); go_simp; try with_reducible rfl
          try simp only [Act.put, List.setIfInBounds_toArray, List.set_cons_zero, List.set_cons_succ]
          refine wpAnyH_take (i := 6) (v := undef) (ops_at rfl) (by kernel_rfl) (by kernel_rfl) (by kernel_rfl) (fun _ _ _ h => h) (Or.inr ⟨by rfl, rfl⟩) (by assumption) ?rest32
          try simp only [Act.put, List.setIfInBounds_toArray, List.set_cons_zero, List.set_cons_succ]
          refine wpAnyH_take (i := 7) (v := undef) (ops_at rfl) (by kernel_rfl) (by kernel_rfl) (by kernel_rfl) (fun _ _ _ h => h) (Or.inr ⟨by rfl, rfl⟩) (by assumption) ?rest33
          try simp only [Act.put, List.setIfInBounds_toArray, List.set_cons_zero, List.set_cons_succ]
          refine wpAnyH_take (i := 8) (v := undef) (ops_at rfl) (by kernel_rfl) (by kernel_rfl) (by kernel_rfl) (fun _ _ _ h => h) (Or.inr ⟨by rfl, rfl⟩) (by assumption) ?rest34
          try simp only [Act.put, List.setIfInBounds_toArray, List.set_cons_zero, List.set_cons_succ]
          refine wpAnyH_take (i := 9) (v := undef) (ops_at rfl) (by kernel_rfl) (by kernel_rfl) (by kernel_rfl) (fun _ _ _ h => h) (Or.inr ⟨by rfl, rfl⟩) (by assumption) ?rest35
          try simp only [Act.put, List.setIfInBounds_toArray, List.set_cons_zero, List.set_cons_succ]
          refine wpAnyH_take (i := 10) (v := undef) (ops_at rfl) (by kernel_rfl) (by kernel_rfl) (by kernel_rfl) (fun _ _ _ h => h) (Or.inr ⟨by rfl, rfl⟩) (by assumption) ?rest36
          try simp only [Act.put, List.setIfInBounds_toArray, List.set_cons_zero, List.set_cons_succ]
          refine wpAnyH_take (i := 11) (v := undef) (ops_at rfl) (by kernel_rfl) (by kernel_rfl) (by kernel_rfl) (fun _ _ _ h => h) (Or.inr ⟨by rfl, rfl⟩) (by assumption) ?rest37
          try simp only [Act.put, List.setIfInBounds_toArray, List.set_cons_zero, List.set_cons_succ]
          refine wpAnyH_take (i := 12) (v := undef) (ops_at rfl) (by kernel_rfl) (by kernel_rfl) (by kernel_rfl) (fun _ _ _ h => h) (Or.inr ⟨by rfl, rfl⟩) (by assumption) ?rest38
          try simp only [Act.put, List.setIfInBounds_toArray, List.set_cons_zero, List.set_cons_succ]
          refine wpAnyH_take (i := 13) (v := undef) (ops_at rfl) (by kernel_rfl) (by kernel_rfl) (by kernel_rfl) (fun _ _ _ h => h) (Or.inr ⟨by rfl, rfl⟩) (by assumption) ?rest39
          try simp only [Act.put, List.setIfInBounds_toArray, List.set_cons_zero, List.set_cons_succ]
          refine wpAnyH_take (i := 14) (v := ?v40) (ops_at rfl) (by kernel_rfl) (by kernel_rfl) (by kernel_rfl) (fun _ _ _ h => h) (Or.inl ⟨by rfl, ?hy40⟩) (by assumption) ?rest40
          case hy40 => intro w' hSw; (try dsimp only at hSw); go_simp; try with_reducible rfl
          try simp only [Act.put, List.setIfInBounds_toArray, List.set_cons_zero, List.set_cons_succ]
          refine wpAnyH_take (i := 15) (v := ?v41) (ops_at rfl) (by kernel_rfl) (by kernel_rfl) (by kernel_rfl) (fun _ _ _ h => h) (Or.inl ⟨by rfl, ?hy41⟩) (by assumption) ?rest41
          case hy41 => intro w' hSw; (try dsimp only at hSw); go_simp; try with_reducible rfl
          try simp only [Act.put, List.setIfInBounds_toArray, List.set_cons_zero, List.set_cons_succ]
          refine wpAnyH_take (i := 16) (v := undef) (ops_at rfl) (by kernel_rfl) (by kernel_rfl) (by kernel_rfl) (fun _ _ _ h => h) (Or.inr ⟨by rfl, rfl⟩) (by assumption) ?rest42
          try simp only [Act.put, List.setIfInBounds_toArray, List.set_cons_zero, List.set_cons_succ]
          refine wpAnyH_take (i := 17) (v := undef) (ops_at rfl) (by kernel_rfl) (by kernel_rfl) (by kernel_rfl) (fun _ _ _ h => h) (Or.inr ⟨by rfl, rfl⟩) (by assumption) ?rest43
          try simp only [Act.put, List.setIfInBounds_toArray, List.set_cons_zero, List.set_cons_succ]
          refine wpAnyH_take (i := 18) (v := undef) (ops_at rfl) (by kernel_rfl) (by kernel_rfl) (by kernel_rfl) (fun _ _ _ h => h) (Or.inr ⟨by rfl, rfl⟩) (by assumption) ?rest44
          try simp only [Act.put, List.setIfInBounds_toArray, List.set_cons_zero, List.set_cons_succ]
          refine wpAnyH_take (i := 19) (v := undef) (ops_at rfl) (by kernel_rfl) (by kernel_rfl) (by kernel_rfl) (fun _ _ _ h => h) (Or.inr ⟨by rfl, rfl⟩) (by assumption) ?rest45
          try simp only [Act.put, List.setIfInBounds_toArray, List.set_cons_zero, List.set_cons_succ]
          refine wpAnyH_take (i := 20) (v := undef) (ops_at rfl) (by kernel_rfl) (by kernel_rfl) (by kernel_rfl) (fun _ _ _ h => h) (Or.inr ⟨by rfl, rfl⟩) (by assumption) ?rest46
          try simp only [Act.put, List.setIfInBounds_toArray, List.set_cons_zero, List.set_cons_succ]
          refine wpAnyH_take (i := 21) (v := undef) (ops_at rfl) (by kernel_rfl) (by kernel_rfl) (by kernel_rfl) (fun _ _ _ h => h) (Or.inr ⟨by rfl, rfl⟩) (by assumption) ?rest47
          try simp only [Act.put, List.setIfInBounds_toArray, List.set_cons_zero, List.set_cons_succ]
          refine wpAnyH_take (i := 22) (v := undef) (ops_at rfl) (by kernel_rfl) (by kernel_rfl) (by kernel_rfl) (fun _ _ _ h => h) (Or.inr ⟨by rfl, rfl⟩) (by assumption) ?rest48
          try simp only [Act.put, List.setIfInBounds_toArray, List.set_cons_zero, List.set_cons_succ]
          refine wpAnyH_take (i := 23) (v := undef) (ops_at rfl) (by kernel_rfl) (by kernel_rfl) (by kernel_rfl) (fun _ _ _ h => h) (Or.inr ⟨by rfl, rfl⟩) (by assumption) ?rest49
          try simp only [Act.put, List.setIfInBounds_toArray, List.set_cons_zero, List.set_cons_succ]
          refine wpAnyH_take (i := 24) (v := ?v50) (ops_at rfl) (by kernel_rfl) (by kernel_rfl) (by kernel_rfl) (fun _ _ _ h => h) (Or.inl ⟨by rfl, ?hy50⟩) (by assumption) ?rest50
          case hy50 => intro w' hSw; (try dsimp only at hSw); go_simp; try with_reducible rfl
          try simp only [Act.put, List.setIfInBounds_toArray, List.set_cons_zero, List.set_cons_succ]
          refine wpAnyH_take (i := 25) (v := ?v51) (ops_at rfl) (by kernel_rfl) (by kernel_rfl) (by kernel_rfl) (fun _ _ _ h => h) (Or.inl ⟨by rfl, ?hy51⟩) (by assumption) ?rest51
          case hy51 => intro w' hSw; (try dsimp only at hSw); go_simp; try with_reducible rfl
          try simp only [Act.put, List.setIfInBounds_toArray, List.set_cons_zero, List.set_cons_succ]
          refine wpAnyH_take (i := 26) (v := undef) (ops_at rfl) (by kernel_rfl) (by kernel_rfl) (by kernel_rfl) (fun _ _ _ h => h) (Or.inr ⟨by rfl, rfl⟩) (by assumption) ?rest52
          try simp only [Act.put, List.setIfInBounds_toArray, List.set_cons_zero, List.set_cons_succ]
          refine wpAnyH_take (i := 27) (v := undef) (ops_at rfl) (by kernel_rfl) (by kernel_rfl) (by kernel_rfl) (fun _ _ _ h => h) (Or.inr ⟨by rfl, rfl⟩) (by assumption) ?rest53
          try simp only [Act.put, List.setIfInBounds_toArray, List.set_cons_zero, List.set_cons_succ]
          refine wpAnyH_take (i := 28) (v := undef) (ops_at rfl) (by kernel_rfl) (by kernel_rfl) (by kernel_rfl) (fun _ _ _ h => h) (Or.inr ⟨by rfl, rfl⟩) (by assumption) ?rest54
          try simp only [Act.put, List.setIfInBounds_toArray, List.set_cons_zero, List.set_cons_succ]
          refine wpAnyH_take (i := 29) (v := undef) (ops_at rfl) (by kernel_rfl) (by kernel_rfl) (by kernel_rfl) (fun _ _ _ h => h) (Or.inr ⟨by rfl, rfl⟩) (by assumption) ?rest55
          try simp only [Act.put, List.setIfInBounds_toArray, List.set_cons_zero, List.set_cons_succ]
          refine wpAnyH_take (i := 30) (v := undef) (ops_at rfl) (by kernel_rfl) (by kernel_rfl) (by kernel_rfl) (fun _ _ _ h => h) (Or.inr ⟨by rfl, rfl⟩) (by assumption) ?rest56
          try simp only [Act.put, List.setIfInBounds_toArray, List.set_cons_zero, List.set_cons_succ]
          refine wpAnyH_take (i := 31) (v := undef) (ops_at rfl) (by kernel_rfl) (by kernel_rfl) (by kernel_rfl) (fun _ _ _ h => h) (Or.inr ⟨by rfl, rfl⟩) (by assumption) ?rest57
          try simp only [Act.put, List.setIfInBounds_toArray, List.set_cons_zero, List.set_cons_succ]
          refine wpAnyH_take (i := 32) (v := undef) (ops_at rfl) (by kernel_rfl) (by kernel_rfl) (by kernel_rfl) (fun _ _ _ h => h) (Or.inr ⟨by rfl, rfl⟩) (by assumption) ?rest58
          try simp only [Act.put, List.setIfInBounds_toArray, List.set_cons_zero, List.set_cons_succ]
          refine wpAnyH_take (i := 33) (v := undef) (ops_at rfl) (by kernel_rfl) (by kernel_rfl) (by kernel_rfl) (fun _ _ _ h => h) (Or.inr ⟨by rfl, rfl⟩) (by assumption) ?rest59
          try simp only [Act.put, List.setIfInBounds_toArray, List.set_cons_zero, List.set_cons_succ]
          refine wpAnyH_take (i := 34) (v := ?v60) (ops_at rfl) (by kernel_rfl) (by kernel_rfl) (by kernel_rfl) (fun _ _ _ h => h) (Or.inl ⟨by rfl, ?hy60⟩) (by assumption) ?rest60
          case hy60 => intro w' hSw; (try dsimp only at hSw); go_simp; try with_reducible rfl
          try simp only [Act.put, List.setIfInBounds_toArray, List.set_cons_zero, List.set_cons_succ]
          refine wpAnyH_take (i := 35) (v := ?v61) (ops_at rfl) (by kernel_rfl) (by kernel_rfl) (by kernel_rfl) (fun _ _ _ h => h) (Or.inl ⟨by rfl, ?hy61⟩) (by assumption) ?rest61
          case hy61 => intro w' hSw; (try dsimp only at hSw); go_simp; try with_reducible rfl
          try simp only [Act.put, List.setIfInBounds_toArray, List.set_cons_zero, List.set_cons_succ]
          refine wpAnyH_take (i := 36) (v := undef) (ops_at rfl) (by kernel_rfl) (by kernel_rfl) (by kernel_rfl) (fun _ _ _ h => h) (Or.inr ⟨by rfl, rfl⟩) (by assumption) ?rest62
          try simp only [Act.put, List.setIfInBounds_toArray, List.set_cons_zero, List.set_cons_succ]
          refine wpAnyH_take (i := 37) (v := undef) (ops_at rfl) (by kernel_rfl) (by kernel_rfl) (by kernel_rfl) (fun _ _ _ h => h) (Or.inr ⟨by rfl, rfl⟩) (by assumption) ?rest63
          try simp only [Act.put, List.setIfInBounds_toArray, List.set_cons_zero, List.set_cons_succ]
          refine wpAnyH_take (i := 38) (v := ?v64) (ops_at rfl) (by kernel_rfl) (by kernel_rfl) (by kernel_rfl) (fun _ _ _ h => h) (Or.inl ⟨by rfl, ?hy64⟩) (by assumption) ?rest64
          case hy64 => intro w' hSw; (try dsimp only at hSw); go_simp; try with_reducible rfl
          try simp only [Act.put, List.setIfInBounds_toArray, List.set_cons_zero, List.set_cons_succ]
          refine wpAnyH_done (by kernel_rfl) ?_ _
          clear keep Sm HX
          go_wp2
          go_roundw
          case rel => exact ⟨m + 1, by omega, by rw [E.out], by go_num, S7⟩
          case measure => simp [intOf]; omega
        have HH1 := hid h1
        have HM1 : Hid (mixA y x = ((y.job == x.job) && ((y.inc == x.inc) && (y.version != x.version)))) := by rw [Hid, HMx.out, h1]; rfl
        clear h1 HMx
        cases b1 : (y.job == x.job)
        · have E : Hid (mn v3 4 (mixR L x (m + 1)) = u) := by rw [Hid, HU.out, HM1.out, b1]; rfl
          clear HM1 HU
          go_wp2_with fail
          refine wp_region_held_drew (S := (fun w' => ((w'.cell? A = some (.bool y.up) ∧ w'.cell? { block := A.block, off := A.off + 1 } = some (.int .i64 y.term) ∧ w'.cell? { block := A.block, off := A.off + 2 } = some (.int .i64 y.gen) ∧ w'.cell? { block := A.block, off := A.off + 3 } = some (.int .i64 y.mode) ∧ w'.cell? { block := A.block, off := A.off + 4 } = some (.int .i64 y.job) ∧ w'.cell? { block := A.block, off := A.off + 5 } = some (.int .i64 y.inc) ∧ w'.cell? { block := A.block, off := A.off + 6 } = some (.int .i64 y.version) ∧ w'.cell? { block := A.block, off := A.off + 7 } = some (.int .i64 y.lease) ∧ w'.cell? { block := A.block, off := A.off + 8 } = some (.int .i64 y.worked) ∧ w'.cell? { block := A.block, off := A.off + 9 } = some (.int .i64 y.to_)) ∧ (w'.cell? ⟨g4, 4, none⟩ = some (.int .i64 x.job) ∧ w'.cell? ⟨g4, 5, none⟩ = some (.int .i64 x.inc) ∧ w'.cell? ⟨g4, 6, none⟩ = some (.int .i64 x.version) ∧ w'.cell? ⟨g5, 3, none⟩ = some (.int .i64 j.hi) ∧ w'.cell? ⟨g5, 5, none⟩ = some (.int .i64 j.pin))))) (by kernel_rfl) (by exact keep Sm.drew) (fun hHeld => ?_)
          change wpAnyH _ _ _ _ _ 39 (Array.replicate 39 false) _ _
          refine wpAnyH_take (i := 0) (v := ?v65) (ops_at rfl) (by kernel_rfl) (by kernel_rfl) (by kernel_rfl) (fun _ _ _ h => h) (Or.inl ⟨by rfl, ?hy65⟩) (by assumption) ?rest65
          case hy65 => intro w' hSw; (try dsimp only at hSw); go_simp; try with_reducible rfl
          try simp only [Act.put, List.setIfInBounds_toArray, List.set_cons_zero, List.set_cons_succ]
          refine wpAnyH_take (i := 1) (v := ?v66) (ops_at rfl) (by kernel_rfl) (by kernel_rfl) (by kernel_rfl) (fun _ _ _ h => h) (Or.inl ⟨by rfl, ?hy66⟩) (by assumption) ?rest66
          case hy66 => intro w' hSw; (try dsimp only at hSw); go_simp; try with_reducible rfl
          try simp only [Act.put, List.setIfInBounds_toArray, List.set_cons_zero, List.set_cons_succ]
          refine wpAnyH_ready (rs := [2]) (by kernel_rfl) (by simp) ?_
          refine AllReadyH.cons (ops_at rfl) (fun K hK => ?_) AllReadyH.nil
          go_simp
          refine hK.out _ _ (by exact keep Sm.drew) (fun hHeld => ?_)
          clear hK K
          try simp only [Act.put, List.setIfInBounds_toArray, List.set_cons_zero, List.set_cons_succ]
          refine wpAnyH_take (i := 3) (v := ?v67) (ops_at rfl) (by kernel_rfl) (by kernel_rfl) (by kernel_rfl) (fun _ _ _ h => h) (Or.inl ⟨by rfl, ?hy67⟩) (by assumption) ?rest67
          case hy67 => intro w' hSw; (try dsimp only at hSw); go_simp; try with_reducible rfl
          try simp only [Act.put, List.setIfInBounds_toArray, List.set_cons_zero, List.set_cons_succ]
          refine wpAnyH_ready (rs := [4]) (by kernel_rfl) (by simp) ?_
          refine AllReadyH.cons (ops_at rfl) (fun K hK => ?_) AllReadyH.nil
          go_simp
          refine (rtHas y _).mono ?_
          rintro e w6 ⟨rfl, hb6⟩
          rw [HH1.out]
          have S7 := Sm.drew.grow hb6
          refine hK.out _ _ (by exact keep S7) (fun hHeld => ?_)
          clear hK K
          try simp only [Act.put, List.setIfInBounds_toArray, List.set_cons_zero, List.set_cons_succ]
          refine wpAnyH_take (i := 5) (v := ?v69) (ops_at rfl) (by kernel_rfl) (by kernel_rfl) (by kernel_rfl) (fun _ _ _ h => h) (Or.inl ⟨by rfl, ?hy69⟩) (by assumption) ?rest69
          case hy69 => intro w' hSw; (try dsimp only at hSw); go_simp; try with_reducible rfl
          try simp only [Act.put, List.setIfInBounds_toArray, List.set_cons_zero, List.set_cons_succ]
          refine wpAnyH_take (i := 6) (v := ?v70) (ops_at rfl) (by kernel_rfl) (by kernel_rfl) (by kernel_rfl) (fun _ _ _ h => h) (Or.inl ⟨by rfl, ?hy70⟩) (by assumption) ?rest70
          case hy70 => intro w' hSw; (try dsimp only at hSw); go_simp; try with_reducible rfl
          try simp only [Act.put, List.setIfInBounds_toArray, List.set_cons_zero, List.set_cons_succ]
          refine wpAnyH_take (i := 7) (v := ?v71) (ops_at rfl) (by kernel_rfl) (by kernel_rfl) (by kernel_rfl) (fun _ _ _ h => h) (Or.inl ⟨by rfl, ?hy71⟩) (by assumption) ?rest71
          case hy71 => intro w' hSw; (try dsimp only at hSw); go_simp; try with_reducible rfl
          try simp only [Act.put, List.setIfInBounds_toArray, List.set_cons_zero, List.set_cons_succ]
          refine wpAnyH_take (i := 11) (v := ?v72) (ops_at rfl) (by kernel_rfl) (by kernel_rfl) (by kernel_rfl) (fun _ _ _ h => h) (Or.inl ⟨by rfl, ?hy72⟩) (by assumption) ?rest72
          case hy72 => intro w' hSw; (try dsimp only at hSw); go_simp; try with_reducible rfl
          try simp only [Act.put, List.setIfInBounds_toArray, List.set_cons_zero, List.set_cons_succ]
          refine wpAnyH_take (i := 12) (v := ?v73) (ops_at rfl) (by kernel_rfl) (by kernel_rfl) (by kernel_rfl) (fun _ _ _ h => h) (Or.inl ⟨by rfl, ?hy73⟩) (by assumption) ?rest73
          case hy73 => intro w' hSw; (try dsimp only at hSw); go_simp; try with_reducible rfl
          try simp only [Act.put, List.setIfInBounds_toArray, List.set_cons_zero, List.set_cons_succ]
          refine wpAnyH_ready (rs := [8]) (by kernel_rfl) (by simp) ?_
          refine AllReadyH.cons (ops_at rfl) (fun K hK => ?_) AllReadyH.nil
          go_simp
          refine hK.out _ _ (by exact keep S7) (fun hHeld => ?_)
          clear hK K
          try simp only [Act.put, List.setIfInBounds_toArray, List.set_cons_zero, List.set_cons_succ]
          refine wpAnyH_take (i := 9) (v := ?v74) (ops_at rfl) (by kernel_rfl) (by kernel_rfl) (by kernel_rfl) (fun _ _ _ h => h) (Or.inl ⟨by rfl, ?hy74⟩) (by assumption) ?rest74
          case hy74 => intro w' hSw; (try dsimp only at hSw); go_simp; try with_reducible rfl
          try simp only [Act.put, List.setIfInBounds_toArray, List.set_cons_zero, List.set_cons_succ]
          refine wpAnyH_take (i := 10) (v := ?v75) (ops_at rfl) (by kernel_rfl) (by kernel_rfl) (by kernel_rfl) (fun _ _ _ h => h) (Or.inl ⟨by rfl, ?hy75⟩) (by assumption) ?rest75
          case hy75 => intro w' hSw; (try dsimp only at hSw); go_simp; try with_reducible rfl
          try simp only [Act.put, List.setIfInBounds_toArray, List.set_cons_zero, List.set_cons_succ]
          refine wpAnyH_take (i := 13) (v := ?v76) (ops_at rfl) (by kernel_rfl) (by kernel_rfl) (by kernel_rfl) (fun _ _ _ h => h) (Or.inl ⟨by rfl, ?hy76⟩) (by assumption) ?rest76
          case hy76 => intro w' hSw; (try dsimp only at hSw); go_simp; try with_reducible rfl
          try simp only [Act.put, List.setIfInBounds_toArray, List.set_cons_zero, List.set_cons_succ]
          refine wpAnyH_take (i := 14) (v := ?v77) (ops_at rfl) (by kernel_rfl) (by kernel_rfl) (by kernel_rfl) (fun _ _ _ h => h) (Or.inl ⟨by rfl, ?hy77⟩) (by assumption) ?rest77
          case hy77 => intro w' hSw; (try dsimp only at hSw); go_simp; try with_reducible rfl
          try simp only [Act.put, List.setIfInBounds_toArray, List.set_cons_zero, List.set_cons_succ]
          refine wpAnyH_take (i := 15) (v := ?v78) (ops_at rfl) (by kernel_rfl) (by kernel_rfl) (by kernel_rfl) (fun _ _ _ h => h) (Or.inl ⟨by rfl, ?hy78⟩) (by assumption) ?rest78
          case hy78 => intro w' hSw; (try dsimp only at hSw); go_simp; try with_reducible rfl
          try simp only [Act.put, List.setIfInBounds_toArray, List.set_cons_zero, List.set_cons_succ]
          refine wpAnyH_take (i := 16) (v := undef) (ops_at rfl) (by kernel_rfl) (by kernel_rfl) (by kernel_rfl) (fun _ _ _ h => h) (Or.inr ⟨by rfl, rfl⟩) (by assumption) ?rest79
          try simp only [Act.put, List.setIfInBounds_toArray, List.set_cons_zero, List.set_cons_succ]
          refine wpAnyH_take (i := 17) (v := undef) (ops_at rfl) (by kernel_rfl) (by kernel_rfl) (by kernel_rfl) (fun _ _ _ h => h) (Or.inr ⟨by rfl, rfl⟩) (by assumption) ?rest80
          try simp only [Act.put, List.setIfInBounds_toArray, List.set_cons_zero, List.set_cons_succ]
          refine wpAnyH_take (i := 18) (v := undef) (ops_at rfl) (by kernel_rfl) (by kernel_rfl) (by kernel_rfl) (fun _ _ _ h => h) (Or.inr ⟨by rfl, rfl⟩) (by assumption) ?rest81
          try simp only [Act.put, List.setIfInBounds_toArray, List.set_cons_zero, List.set_cons_succ]
          refine wpAnyH_take (i := 19) (v := undef) (ops_at rfl) (by kernel_rfl) (by kernel_rfl) (by kernel_rfl) (fun _ _ _ h => h) (Or.inr ⟨by rfl, rfl⟩) (by assumption) ?rest82
          try simp only [Act.put, List.setIfInBounds_toArray, List.set_cons_zero, List.set_cons_succ]
          refine wpAnyH_take (i := 20) (v := undef) (ops_at rfl) (by kernel_rfl) (by kernel_rfl) (by kernel_rfl) (fun _ _ _ h => h) (Or.inr ⟨by rfl, rfl⟩) (by assumption) ?rest83
          try simp only [Act.put, List.setIfInBounds_toArray, List.set_cons_zero, List.set_cons_succ]
          refine wpAnyH_take (i := 21) (v := undef) (ops_at rfl) (by kernel_rfl) (by kernel_rfl) (by kernel_rfl) (fun _ _ _ h => h) (Or.inr ⟨by rfl, rfl⟩) (by assumption) ?rest84
          try simp only [Act.put, List.setIfInBounds_toArray, List.set_cons_zero, List.set_cons_succ]
          refine wpAnyH_take (i := 22) (v := undef) (ops_at rfl) (by kernel_rfl) (by kernel_rfl) (by kernel_rfl) (fun _ _ _ h => h) (Or.inr ⟨by rfl, rfl⟩) (by assumption) ?rest85
          try simp only [Act.put, List.setIfInBounds_toArray, List.set_cons_zero, List.set_cons_succ]
          refine wpAnyH_take (i := 23) (v := undef) (ops_at rfl) (by kernel_rfl) (by kernel_rfl) (by kernel_rfl) (fun _ _ _ h => h) (Or.inr ⟨by rfl, rfl⟩) (by assumption) ?rest86
          try simp only [Act.put, List.setIfInBounds_toArray, List.set_cons_zero, List.set_cons_succ]
          refine wpAnyH_take (i := 24) (v := ?v87) (ops_at rfl) (by kernel_rfl) (by kernel_rfl) (by kernel_rfl) (fun _ _ _ h => h) (Or.inl ⟨by rfl, ?hy87⟩) (by assumption) ?rest87
          case hy87 => intro w' hSw; (try dsimp only at hSw); go_simp; try with_reducible rfl
          try simp only [Act.put, List.setIfInBounds_toArray, List.set_cons_zero, List.set_cons_succ]
          refine wpAnyH_take (i := 25) (v := ?v88) (ops_at rfl) (by kernel_rfl) (by kernel_rfl) (by kernel_rfl) (fun _ _ _ h => h) (Or.inl ⟨by rfl, ?hy88⟩) (by assumption) ?rest88
          case hy88 => intro w' hSw; (try dsimp only at hSw); go_simp; try with_reducible rfl
          try simp only [Act.put, List.setIfInBounds_toArray, List.set_cons_zero, List.set_cons_succ]
          refine wpAnyH_take (i := 26) (v := undef) (ops_at rfl) (by kernel_rfl) (by kernel_rfl) (by kernel_rfl) (fun _ _ _ h => h) (Or.inr ⟨by rfl, rfl⟩) (by assumption) ?rest89
          try simp only [Act.put, List.setIfInBounds_toArray, List.set_cons_zero, List.set_cons_succ]
          refine wpAnyH_take (i := 27) (v := undef) (ops_at rfl) (by kernel_rfl) (by kernel_rfl) (by kernel_rfl) (fun _ _ _ h => h) (Or.inr ⟨by rfl, rfl⟩) (by assumption) ?rest90
          try simp only [Act.put, List.setIfInBounds_toArray, List.set_cons_zero, List.set_cons_succ]
          refine wpAnyH_take (i := 28) (v := undef) (ops_at rfl) (by kernel_rfl) (by kernel_rfl) (by kernel_rfl) (fun _ _ _ h => h) (Or.inr ⟨by rfl, rfl⟩) (by assumption) ?rest91
          try simp only [Act.put, List.setIfInBounds_toArray, List.set_cons_zero, List.set_cons_succ]
          refine wpAnyH_take (i := 29) (v := undef) (ops_at rfl) (by kernel_rfl) (by kernel_rfl) (by kernel_rfl) (fun _ _ _ h => h) (Or.inr ⟨by rfl, rfl⟩) (by assumption) ?rest92
          try simp only [Act.put, List.setIfInBounds_toArray, List.set_cons_zero, List.set_cons_succ]
          refine wpAnyH_take (i := 30) (v := undef) (ops_at rfl) (by kernel_rfl) (by kernel_rfl) (by kernel_rfl) (fun _ _ _ h => h) (Or.inr ⟨by rfl, rfl⟩) (by assumption) ?rest93
          try simp only [Act.put, List.setIfInBounds_toArray, List.set_cons_zero, List.set_cons_succ]
          refine wpAnyH_take (i := 31) (v := undef) (ops_at rfl) (by kernel_rfl) (by kernel_rfl) (by kernel_rfl) (fun _ _ _ h => h) (Or.inr ⟨by rfl, rfl⟩) (by assumption) ?rest94
          try simp only [Act.put, List.setIfInBounds_toArray, List.set_cons_zero, List.set_cons_succ]
          refine wpAnyH_take (i := 32) (v := undef) (ops_at rfl) (by kernel_rfl) (by kernel_rfl) (by kernel_rfl) (fun _ _ _ h => h) (Or.inr ⟨by rfl, rfl⟩) (by assumption) ?rest95
          try simp only [Act.put, List.setIfInBounds_toArray, List.set_cons_zero, List.set_cons_succ]
          refine wpAnyH_take (i := 33) (v := undef) (ops_at rfl) (by kernel_rfl) (by kernel_rfl) (by kernel_rfl) (fun _ _ _ h => h) (Or.inr ⟨by rfl, rfl⟩) (by assumption) ?rest96
          try simp only [Act.put, List.setIfInBounds_toArray, List.set_cons_zero, List.set_cons_succ]
          refine wpAnyH_take (i := 34) (v := ?v97) (ops_at rfl) (by kernel_rfl) (by kernel_rfl) (by kernel_rfl) (fun _ _ _ h => h) (Or.inl ⟨by rfl, ?hy97⟩) (by assumption) ?rest97
          case hy97 => intro w' hSw; (try dsimp only at hSw); go_simp; try with_reducible rfl
          try simp only [Act.put, List.setIfInBounds_toArray, List.set_cons_zero, List.set_cons_succ]
          refine wpAnyH_take (i := 35) (v := ?v98) (ops_at rfl) (by kernel_rfl) (by kernel_rfl) (by kernel_rfl) (fun _ _ _ h => h) (Or.inl ⟨by rfl, ?hy98⟩) (by assumption) ?rest98
          case hy98 => intro w' hSw; (try dsimp only at hSw); go_simp; try with_reducible rfl
          try simp only [Act.put, List.setIfInBounds_toArray, List.set_cons_zero, List.set_cons_succ]
          refine wpAnyH_take (i := 36) (v := undef) (ops_at rfl) (by kernel_rfl) (by kernel_rfl) (by kernel_rfl) (fun _ _ _ h => h) (Or.inr ⟨by rfl, rfl⟩) (by assumption) ?rest99
          try simp only [Act.put, List.setIfInBounds_toArray, List.set_cons_zero, List.set_cons_succ]
          refine wpAnyH_take (i := 37) (v := undef) (ops_at rfl) (by kernel_rfl) (by kernel_rfl) (by kernel_rfl) (fun _ _ _ h => h) (Or.inr ⟨by rfl, rfl⟩) (by assumption) ?rest100
          try simp only [Act.put, List.setIfInBounds_toArray, List.set_cons_zero, List.set_cons_succ]
          refine wpAnyH_take (i := 38) (v := ?v101) (ops_at rfl) (by kernel_rfl) (by kernel_rfl) (by kernel_rfl) (fun _ _ _ h => h) (Or.inl ⟨by rfl, ?hy101⟩) (by assumption) ?rest101
          case hy101 => intro w' hSw; (try dsimp only at hSw); go_simp; try with_reducible rfl
          try simp only [Act.put, List.setIfInBounds_toArray, List.set_cons_zero, List.set_cons_succ]
          refine wpAnyH_done (by kernel_rfl) ?_ _
          clear keep Sm HX
          go_wp2
          go_roundw
          case rel => exact ⟨m + 1, by omega, by rw [E.out], by go_num, S7⟩
          case measure => simp [intOf]; omega
        cases b2 : (y.inc == x.inc)
        · have E : Hid (mn v3 4 (mixR L x (m + 1)) = u) := by rw [Hid, HU.out, HM1.out, b1, b2]; rfl
          clear HM1 HU
          go_wp2_with fail
          refine wp_region_held_drew (S := (fun w' => ((w'.cell? A = some (.bool y.up) ∧ w'.cell? { block := A.block, off := A.off + 1 } = some (.int .i64 y.term) ∧ w'.cell? { block := A.block, off := A.off + 2 } = some (.int .i64 y.gen) ∧ w'.cell? { block := A.block, off := A.off + 3 } = some (.int .i64 y.mode) ∧ w'.cell? { block := A.block, off := A.off + 4 } = some (.int .i64 y.job) ∧ w'.cell? { block := A.block, off := A.off + 5 } = some (.int .i64 y.inc) ∧ w'.cell? { block := A.block, off := A.off + 6 } = some (.int .i64 y.version) ∧ w'.cell? { block := A.block, off := A.off + 7 } = some (.int .i64 y.lease) ∧ w'.cell? { block := A.block, off := A.off + 8 } = some (.int .i64 y.worked) ∧ w'.cell? { block := A.block, off := A.off + 9 } = some (.int .i64 y.to_)) ∧ (w'.cell? ⟨g4, 4, none⟩ = some (.int .i64 x.job) ∧ w'.cell? ⟨g4, 5, none⟩ = some (.int .i64 x.inc) ∧ w'.cell? ⟨g4, 6, none⟩ = some (.int .i64 x.version) ∧ w'.cell? ⟨g5, 3, none⟩ = some (.int .i64 j.hi) ∧ w'.cell? ⟨g5, 5, none⟩ = some (.int .i64 j.pin))))) (by kernel_rfl) (by exact keep Sm.drew) (fun hHeld => ?_)
          change wpAnyH _ _ _ _ _ 39 (Array.replicate 39 false) _ _
          refine wpAnyH_take (i := 0) (v := ?v102) (ops_at rfl) (by kernel_rfl) (by kernel_rfl) (by kernel_rfl) (fun _ _ _ h => h) (Or.inl ⟨by rfl, ?hy102⟩) (by assumption) ?rest102
          case hy102 => intro w' hSw; (try dsimp only at hSw); go_simp; try with_reducible rfl
          try simp only [Act.put, List.setIfInBounds_toArray, List.set_cons_zero, List.set_cons_succ]
          refine wpAnyH_take (i := 1) (v := ?v103) (ops_at rfl) (by kernel_rfl) (by kernel_rfl) (by kernel_rfl) (fun _ _ _ h => h) (Or.inl ⟨by rfl, ?hy103⟩) (by assumption) ?rest103
          case hy103 => intro w' hSw; (try dsimp only at hSw); go_simp; try with_reducible rfl
          try simp only [Act.put, List.setIfInBounds_toArray, List.set_cons_zero, List.set_cons_succ]
          refine wpAnyH_ready (rs := [2]) (by kernel_rfl) (by simp) ?_
          refine AllReadyH.cons (ops_at rfl) (fun K hK => ?_) AllReadyH.nil
          go_simp
          refine hK.out _ _ (by exact keep Sm.drew) (fun hHeld => ?_)
          clear hK K
          try simp only [Act.put, List.setIfInBounds_toArray, List.set_cons_zero, List.set_cons_succ]
          refine wpAnyH_take (i := 3) (v := ?v104) (ops_at rfl) (by kernel_rfl) (by kernel_rfl) (by kernel_rfl) (fun _ _ _ h => h) (Or.inl ⟨by rfl, ?hy104⟩) (by assumption) ?rest104
          case hy104 => intro w' hSw; (try dsimp only at hSw); go_simp; try with_reducible rfl
          try simp only [Act.put, List.setIfInBounds_toArray, List.set_cons_zero, List.set_cons_succ]
          refine wpAnyH_ready (rs := [4]) (by kernel_rfl) (by simp) ?_
          refine AllReadyH.cons (ops_at rfl) (fun K hK => ?_) AllReadyH.nil
          go_simp
          refine (rtHas y _).mono ?_
          rintro e w6 ⟨rfl, hb6⟩
          rw [HH1.out]
          have S7 := Sm.drew.grow hb6
          refine hK.out _ _ (by exact keep S7) (fun hHeld => ?_)
          clear hK K
          try simp only [Act.put, List.setIfInBounds_toArray, List.set_cons_zero, List.set_cons_succ]
          refine wpAnyH_take (i := 5) (v := ?v106) (ops_at rfl) (by kernel_rfl) (by kernel_rfl) (by kernel_rfl) (fun _ _ _ h => h) (Or.inl ⟨by rfl, ?hy106⟩) (by assumption) ?rest106
          case hy106 => intro w' hSw; (try dsimp only at hSw); go_simp; try with_reducible rfl
          try simp only [Act.put, List.setIfInBounds_toArray, List.set_cons_zero, List.set_cons_succ]
          refine wpAnyH_take (i := 6) (v := ?v107) (ops_at rfl) (by kernel_rfl) (by kernel_rfl) (by kernel_rfl) (fun _ _ _ h => h) (Or.inl ⟨by rfl, ?hy107⟩) (by assumption) ?rest107
          case hy107 => intro w' hSw; (try dsimp only at hSw); go_simp; try with_reducible rfl
          try simp only [Act.put, List.setIfInBounds_toArray, List.set_cons_zero, List.set_cons_succ]
          refine wpAnyH_take (i := 7) (v := ?v108) (ops_at rfl) (by kernel_rfl) (by kernel_rfl) (by kernel_rfl) (fun _ _ _ h => h) (Or.inl ⟨by rfl, ?hy108⟩) (by assumption) ?rest108
          case hy108 => intro w' hSw; (try dsimp only at hSw); go_simp; try with_reducible rfl
          try simp only [Act.put, List.setIfInBounds_toArray, List.set_cons_zero, List.set_cons_succ]
          refine wpAnyH_take (i := 11) (v := ?v109) (ops_at rfl) (by kernel_rfl) (by kernel_rfl) (by kernel_rfl) (fun _ _ _ h => h) (Or.inl ⟨by rfl, ?hy109⟩) (by assumption) ?rest109
          case hy109 => intro w' hSw; (try dsimp only at hSw); go_simp; try with_reducible rfl
          try simp only [Act.put, List.setIfInBounds_toArray, List.set_cons_zero, List.set_cons_succ]
          refine wpAnyH_take (i := 12) (v := ?v110) (ops_at rfl) (by kernel_rfl) (by kernel_rfl) (by kernel_rfl) (fun _ _ _ h => h) (Or.inl ⟨by rfl, ?hy110⟩) (by assumption) ?rest110
          case hy110 => intro w' hSw; (try dsimp only at hSw); go_simp; try with_reducible rfl
          try simp only [Act.put, List.setIfInBounds_toArray, List.set_cons_zero, List.set_cons_succ]
          refine wpAnyH_ready (rs := [8]) (by kernel_rfl) (by simp) ?_
          refine AllReadyH.cons (ops_at rfl) (fun K hK => ?_) AllReadyH.nil
          go_simp
          refine hK.out _ _ (by exact keep S7) (fun hHeld => ?_)
          clear hK K
          try simp only [Act.put, List.setIfInBounds_toArray, List.set_cons_zero, List.set_cons_succ]
          refine wpAnyH_take (i := 9) (v := ?v111) (ops_at rfl) (by kernel_rfl) (by kernel_rfl) (by kernel_rfl) (fun _ _ _ h => h) (Or.inl ⟨by rfl, ?hy111⟩) (by assumption) ?rest111
          case hy111 => intro w' hSw; (try dsimp only at hSw); go_simp; try with_reducible rfl
          try simp only [Act.put, List.setIfInBounds_toArray, List.set_cons_zero, List.set_cons_succ]
          refine wpAnyH_take (i := 10) (v := ?v112) (ops_at rfl) (by kernel_rfl) (by kernel_rfl) (by kernel_rfl) (fun _ _ _ h => h) (Or.inl ⟨by rfl, ?hy112⟩) (by assumption) ?rest112
          case hy112 => intro w' hSw; (try dsimp only at hSw); go_simp; try with_reducible rfl
          try simp only [Act.put, List.setIfInBounds_toArray, List.set_cons_zero, List.set_cons_succ]
          refine wpAnyH_take (i := 13) (v := ?v113) (ops_at rfl) (by kernel_rfl) (by kernel_rfl) (by kernel_rfl) (fun _ _ _ h => h) (Or.inl ⟨by rfl, ?hy113⟩) (by assumption) ?rest113
          case hy113 => intro w' hSw; (try dsimp only at hSw); go_simp; try with_reducible rfl
          try simp only [Act.put, List.setIfInBounds_toArray, List.set_cons_zero, List.set_cons_succ]
          refine wpAnyH_take (i := 14) (v := ?v114) (ops_at rfl) (by kernel_rfl) (by kernel_rfl) (by kernel_rfl) (fun _ _ _ h => h) (Or.inl ⟨by rfl, ?hy114⟩) (by assumption) ?rest114
          case hy114 => intro w' hSw; (try dsimp only at hSw); go_simp; try with_reducible rfl
          try simp only [Act.put, List.setIfInBounds_toArray, List.set_cons_zero, List.set_cons_succ]
          refine wpAnyH_take (i := 15) (v := ?v115) (ops_at rfl) (by kernel_rfl) (by kernel_rfl) (by kernel_rfl) (fun _ _ _ h => h) (Or.inl ⟨by rfl, ?hy115⟩) (by assumption) ?rest115
          case hy115 => intro w' hSw; (try dsimp only at hSw); go_simp; try with_reducible rfl
          try simp only [Act.put, List.setIfInBounds_toArray, List.set_cons_zero, List.set_cons_succ]
          refine wpAnyH_take (i := 16) (v := ?v116) (ops_at rfl) (by kernel_rfl) (by kernel_rfl) (by kernel_rfl) (fun _ _ _ h => h) (Or.inl ⟨by rfl, ?hy116⟩) (by assumption) ?rest116
          case hy116 => intro w' hSw; (try dsimp only at hSw); go_simp; try with_reducible rfl
          try simp only [Act.put, List.setIfInBounds_toArray, List.set_cons_zero, List.set_cons_succ]
          refine wpAnyH_take (i := 17) (v := ?v117) (ops_at rfl) (by kernel_rfl) (by kernel_rfl) (by kernel_rfl) (fun _ _ _ h => h) (Or.inl ⟨by rfl, ?hy117⟩) (by assumption) ?rest117
          case hy117 => intro w' hSw; (try dsimp only at hSw); go_simp; try with_reducible rfl
          try simp only [Act.put, List.setIfInBounds_toArray, List.set_cons_zero, List.set_cons_succ]
          refine wpAnyH_take (i := 21) (v := ?v118) (ops_at rfl) (by kernel_rfl) (by kernel_rfl) (by kernel_rfl) (fun _ _ _ h => h) (Or.inl ⟨by rfl, ?hy118⟩) (by assumption) ?rest118
          case hy118 => intro w' hSw; (try dsimp only at hSw); go_simp; try with_reducible rfl
          try simp only [Act.put, List.setIfInBounds_toArray, List.set_cons_zero, List.set_cons_succ]
          refine wpAnyH_take (i := 22) (v := ?v119) (ops_at rfl) (by kernel_rfl) (by kernel_rfl) (by kernel_rfl) (fun _ _ _ h => h) (Or.inl ⟨by rfl, ?hy119⟩) (by assumption) ?rest119
          case hy119 => intro w' hSw; (try dsimp only at hSw); go_simp; try with_reducible rfl
          try simp only [Act.put, List.setIfInBounds_toArray, List.set_cons_zero, List.set_cons_succ]
          refine wpAnyH_ready (rs := [18]) (by kernel_rfl) (by simp) ?_
          refine AllReadyH.cons (ops_at rfl) (fun K hK => ?_) AllReadyH.nil
          go_simp
          refine hK.out _ _ (by exact keep S7) (fun hHeld => ?_)
          clear hK K
          try simp only [Act.put, List.setIfInBounds_toArray, List.set_cons_zero, List.set_cons_succ]
          refine wpAnyH_take (i := 19) (v := ?v120) (ops_at rfl) (by kernel_rfl) (by kernel_rfl) (by kernel_rfl) (fun _ _ _ h => h) (Or.inl ⟨by rfl, ?hy120⟩) (by assumption) ?rest120
          case hy120 => intro w' hSw; (try dsimp only at hSw); go_simp; try with_reducible rfl
          try simp only [Act.put, List.setIfInBounds_toArray, List.set_cons_zero, List.set_cons_succ]
          refine wpAnyH_take (i := 20) (v := ?v121) (ops_at rfl) (by kernel_rfl) (by kernel_rfl) (by kernel_rfl) (fun _ _ _ h => h) (Or.inl ⟨by rfl, ?hy121⟩) (by assumption) ?rest121
          case hy121 => intro w' hSw; (try dsimp only at hSw); go_simp; try with_reducible rfl
          try simp only [Act.put, List.setIfInBounds_toArray, List.set_cons_zero, List.set_cons_succ]
          refine wpAnyH_take (i := 23) (v := ?v122) (ops_at rfl) (by kernel_rfl) (by kernel_rfl) (by kernel_rfl) (fun _ _ _ h => h) (Or.inl ⟨by rfl, ?hy122⟩) (by assumption) ?rest122
          case hy122 => intro w' hSw; (try dsimp only at hSw); go_simp; try with_reducible rfl
          try simp only [Act.put, List.setIfInBounds_toArray, List.set_cons_zero, List.set_cons_succ]
          refine wpAnyH_take (i := 24) (v := ?v123) (ops_at rfl) (by kernel_rfl) (by kernel_rfl) (by kernel_rfl) (fun _ _ _ h => h) (Or.inl ⟨by rfl, ?hy123⟩) (by assumption) ?rest123
          case hy123 => intro w' hSw; (try dsimp only at hSw); go_simp; try with_reducible rfl
          try simp only [Act.put, List.setIfInBounds_toArray, List.set_cons_zero, List.set_cons_succ]
          refine wpAnyH_take (i := 25) (v := ?v124) (ops_at rfl) (by kernel_rfl) (by kernel_rfl) (by kernel_rfl) (fun _ _ _ h => h) (Or.inl ⟨by rfl, ?hy124⟩) (by assumption) ?rest124
          case hy124 => intro w' hSw; (try dsimp only at hSw); go_simp; try with_reducible rfl
          try simp only [Act.put, List.setIfInBounds_toArray, List.set_cons_zero, List.set_cons_succ]
          refine wpAnyH_take (i := 26) (v := undef) (ops_at rfl) (by kernel_rfl) (by kernel_rfl) (by kernel_rfl) (fun _ _ _ h => h) (Or.inr ⟨by rfl, rfl⟩) (by assumption) ?rest125
          try simp only [Act.put, List.setIfInBounds_toArray, List.set_cons_zero, List.set_cons_succ]
          refine wpAnyH_take (i := 27) (v := undef) (ops_at rfl) (by kernel_rfl) (by kernel_rfl) (by kernel_rfl) (fun _ _ _ h => h) (Or.inr ⟨by rfl, rfl⟩) (by assumption) ?rest126
          try simp only [Act.put, List.setIfInBounds_toArray, List.set_cons_zero, List.set_cons_succ]
          refine wpAnyH_take (i := 28) (v := undef) (ops_at rfl) (by kernel_rfl) (by kernel_rfl) (by kernel_rfl) (fun _ _ _ h => h) (Or.inr ⟨by rfl, rfl⟩) (by assumption) ?rest127
          try simp only [Act.put, List.setIfInBounds_toArray, List.set_cons_zero, List.set_cons_succ]
          refine wpAnyH_take (i := 29) (v := undef) (ops_at rfl) (by kernel_rfl) (by kernel_rfl) (by kernel_rfl) (fun _ _ _ h => h) (Or.inr ⟨by rfl, rfl⟩) (by assumption) ?rest128
          try simp only [Act.put, List.setIfInBounds_toArray, List.set_cons_zero, List.set_cons_succ]
          refine wpAnyH_take (i := 30) (v := undef) (ops_at rfl) (by kernel_rfl) (by kernel_rfl) (by kernel_rfl) (fun _ _ _ h => h) (Or.inr ⟨by rfl, rfl⟩) (by assumption) ?rest129
          try simp only [Act.put, List.setIfInBounds_toArray, List.set_cons_zero, List.set_cons_succ]
          refine wpAnyH_take (i := 31) (v := undef) (ops_at rfl) (by kernel_rfl) (by kernel_rfl) (by kernel_rfl) (fun _ _ _ h => h) (Or.inr ⟨by rfl, rfl⟩) (by assumption) ?rest130
          try simp only [Act.put, List.setIfInBounds_toArray, List.set_cons_zero, List.set_cons_succ]
          refine wpAnyH_take (i := 32) (v := undef) (ops_at rfl) (by kernel_rfl) (by kernel_rfl) (by kernel_rfl) (fun _ _ _ h => h) (Or.inr ⟨by rfl, rfl⟩) (by assumption) ?rest131
          try simp only [Act.put, List.setIfInBounds_toArray, List.set_cons_zero, List.set_cons_succ]
          refine wpAnyH_take (i := 33) (v := undef) (ops_at rfl) (by kernel_rfl) (by kernel_rfl) (by kernel_rfl) (fun _ _ _ h => h) (Or.inr ⟨by rfl, rfl⟩) (by assumption) ?rest132
          try simp only [Act.put, List.setIfInBounds_toArray, List.set_cons_zero, List.set_cons_succ]
          refine wpAnyH_take (i := 34) (v := ?v133) (ops_at rfl) (by kernel_rfl) (by kernel_rfl) (by kernel_rfl) (fun _ _ _ h => h) (Or.inl ⟨by rfl, ?hy133⟩) (by assumption) ?rest133
          case hy133 => intro w' hSw; (try dsimp only at hSw); go_simp; try with_reducible rfl
          try simp only [Act.put, List.setIfInBounds_toArray, List.set_cons_zero, List.set_cons_succ]
          refine wpAnyH_take (i := 35) (v := ?v134) (ops_at rfl) (by kernel_rfl) (by kernel_rfl) (by kernel_rfl) (fun _ _ _ h => h) (Or.inl ⟨by rfl, ?hy134⟩) (by assumption) ?rest134
          case hy134 => intro w' hSw; (try dsimp only at hSw); go_simp; try with_reducible rfl
          try simp only [Act.put, List.setIfInBounds_toArray, List.set_cons_zero, List.set_cons_succ]
          refine wpAnyH_take (i := 36) (v := undef) (ops_at rfl) (by kernel_rfl) (by kernel_rfl) (by kernel_rfl) (fun _ _ _ h => h) (Or.inr ⟨by rfl, rfl⟩) (by assumption) ?rest135
          try simp only [Act.put, List.setIfInBounds_toArray, List.set_cons_zero, List.set_cons_succ]
          refine wpAnyH_take (i := 37) (v := undef) (ops_at rfl) (by kernel_rfl) (by kernel_rfl) (by kernel_rfl) (fun _ _ _ h => h) (Or.inr ⟨by rfl, rfl⟩) (by assumption) ?rest136
          try simp only [Act.put, List.setIfInBounds_toArray, List.set_cons_zero, List.set_cons_succ]
          refine wpAnyH_take (i := 38) (v := ?v137) (ops_at rfl) (by kernel_rfl) (by kernel_rfl) (by kernel_rfl) (fun _ _ _ h => h) (Or.inl ⟨by rfl, ?hy137⟩) (by assumption) ?rest137
          case hy137 => intro w' hSw; (try dsimp only at hSw); go_simp; try with_reducible rfl
          try simp only [Act.put, List.setIfInBounds_toArray, List.set_cons_zero, List.set_cons_succ]
          refine wpAnyH_done (by kernel_rfl) ?_ _
          clear keep Sm HX
          go_wp2
          go_roundw
          case rel => exact ⟨m + 1, by omega, by rw [E.out], by go_num, S7⟩
          case measure => simp [intOf]; omega
        cases b3 : (y.version != x.version)
        · have E : Hid (mn v3 4 (mixR L x (m + 1)) = u) := by rw [Hid, HU.out, HM1.out, b1, b2, b3]; rfl
          clear HM1 HU
          go_wp2_with fail
          refine wp_region_held_drew (S := (fun w' => ((w'.cell? A = some (.bool y.up) ∧ w'.cell? { block := A.block, off := A.off + 1 } = some (.int .i64 y.term) ∧ w'.cell? { block := A.block, off := A.off + 2 } = some (.int .i64 y.gen) ∧ w'.cell? { block := A.block, off := A.off + 3 } = some (.int .i64 y.mode) ∧ w'.cell? { block := A.block, off := A.off + 4 } = some (.int .i64 y.job) ∧ w'.cell? { block := A.block, off := A.off + 5 } = some (.int .i64 y.inc) ∧ w'.cell? { block := A.block, off := A.off + 6 } = some (.int .i64 y.version) ∧ w'.cell? { block := A.block, off := A.off + 7 } = some (.int .i64 y.lease) ∧ w'.cell? { block := A.block, off := A.off + 8 } = some (.int .i64 y.worked) ∧ w'.cell? { block := A.block, off := A.off + 9 } = some (.int .i64 y.to_)) ∧ (w'.cell? ⟨g4, 4, none⟩ = some (.int .i64 x.job) ∧ w'.cell? ⟨g4, 5, none⟩ = some (.int .i64 x.inc) ∧ w'.cell? ⟨g4, 6, none⟩ = some (.int .i64 x.version) ∧ w'.cell? ⟨g5, 3, none⟩ = some (.int .i64 j.hi) ∧ w'.cell? ⟨g5, 5, none⟩ = some (.int .i64 j.pin))))) (by kernel_rfl) (by exact keep Sm.drew) (fun hHeld => ?_)
          change wpAnyH _ _ _ _ _ 39 (Array.replicate 39 false) _ _
          refine wpAnyH_take (i := 0) (v := ?v138) (ops_at rfl) (by kernel_rfl) (by kernel_rfl) (by kernel_rfl) (fun _ _ _ h => h) (Or.inl ⟨by rfl, ?hy138⟩) (by assumption) ?rest138
          case hy138 => intro w' hSw; (try dsimp only at hSw); go_simp; try with_reducible rfl
          try simp only [Act.put, List.setIfInBounds_toArray, List.set_cons_zero, List.set_cons_succ]
          refine wpAnyH_take (i := 1) (v := ?v139) (ops_at rfl) (by kernel_rfl) (by kernel_rfl) (by kernel_rfl) (fun _ _ _ h => h) (Or.inl ⟨by rfl, ?hy139⟩) (by assumption) ?rest139
          case hy139 => intro w' hSw; (try dsimp only at hSw); go_simp; try with_reducible rfl
          try simp only [Act.put, List.setIfInBounds_toArray, List.set_cons_zero, List.set_cons_succ]
          refine wpAnyH_ready (rs := [2]) (by kernel_rfl) (by simp) ?_
          refine AllReadyH.cons (ops_at rfl) (fun K hK => ?_) AllReadyH.nil
          go_simp
          refine hK.out _ _ (by exact keep Sm.drew) (fun hHeld => ?_)
          clear hK K
          try simp only [Act.put, List.setIfInBounds_toArray, List.set_cons_zero, List.set_cons_succ]
          refine wpAnyH_take (i := 3) (v := ?v140) (ops_at rfl) (by kernel_rfl) (by kernel_rfl) (by kernel_rfl) (fun _ _ _ h => h) (Or.inl ⟨by rfl, ?hy140⟩) (by assumption) ?rest140
          case hy140 => intro w' hSw; (try dsimp only at hSw); go_simp; try with_reducible rfl
          try simp only [Act.put, List.setIfInBounds_toArray, List.set_cons_zero, List.set_cons_succ]
          refine wpAnyH_ready (rs := [4]) (by kernel_rfl) (by simp) ?_
          refine AllReadyH.cons (ops_at rfl) (fun K hK => ?_) AllReadyH.nil
          go_simp
          refine (rtHas y _).mono ?_
          rintro e w6 ⟨rfl, hb6⟩
          rw [HH1.out]
          have S7 := Sm.drew.grow hb6
          refine hK.out _ _ (by exact keep S7) (fun hHeld => ?_)
          clear hK K
          try simp only [Act.put, List.setIfInBounds_toArray, List.set_cons_zero, List.set_cons_succ]
          refine wpAnyH_take (i := 5) (v := ?v142) (ops_at rfl) (by kernel_rfl) (by kernel_rfl) (by kernel_rfl) (fun _ _ _ h => h) (Or.inl ⟨by rfl, ?hy142⟩) (by assumption) ?rest142
          case hy142 => intro w' hSw; (try dsimp only at hSw); go_simp; try with_reducible rfl
          try simp only [Act.put, List.setIfInBounds_toArray, List.set_cons_zero, List.set_cons_succ]
          refine wpAnyH_take (i := 6) (v := ?v143) (ops_at rfl) (by kernel_rfl) (by kernel_rfl) (by kernel_rfl) (fun _ _ _ h => h) (Or.inl ⟨by rfl, ?hy143⟩) (by assumption) ?rest143
          case hy143 => intro w' hSw; (try dsimp only at hSw); go_simp; try with_reducible rfl
          try simp only [Act.put, List.setIfInBounds_toArray, List.set_cons_zero, List.set_cons_succ]
          refine wpAnyH_take (i := 7) (v := ?v144) (ops_at rfl) (by kernel_rfl) (by kernel_rfl) (by kernel_rfl) (fun _ _ _ h => h) (Or.inl ⟨by rfl, ?hy144⟩) (by assumption) ?rest144
          case hy144 => intro w' hSw; (try dsimp only at hSw); go_simp; try with_reducible rfl
          try simp only [Act.put, List.setIfInBounds_toArray, List.set_cons_zero, List.set_cons_succ]
          refine wpAnyH_take (i := 11) (v := ?v145) (ops_at rfl) (by kernel_rfl) (by kernel_rfl) (by kernel_rfl) (fun _ _ _ h => h) (Or.inl ⟨by rfl, ?hy145⟩) (by assumption) ?rest145
          case hy145 => intro w' hSw; (try dsimp only at hSw); go_simp; try with_reducible rfl
          try simp only [Act.put, List.setIfInBounds_toArray, List.set_cons_zero, List.set_cons_succ]
          refine wpAnyH_take (i := 12) (v := ?v146) (ops_at rfl) (by kernel_rfl) (by kernel_rfl) (by kernel_rfl) (fun _ _ _ h => h) (Or.inl ⟨by rfl, ?hy146⟩) (by assumption) ?rest146
          case hy146 => intro w' hSw; (try dsimp only at hSw); go_simp; try with_reducible rfl
          try simp only [Act.put, List.setIfInBounds_toArray, List.set_cons_zero, List.set_cons_succ]
          refine wpAnyH_ready (rs := [8]) (by kernel_rfl) (by simp) ?_
          refine AllReadyH.cons (ops_at rfl) (fun K hK => ?_) AllReadyH.nil
          go_simp
          refine hK.out _ _ (by exact keep S7) (fun hHeld => ?_)
          clear hK K
          try simp only [Act.put, List.setIfInBounds_toArray, List.set_cons_zero, List.set_cons_succ]
          refine wpAnyH_take (i := 9) (v := ?v147) (ops_at rfl) (by kernel_rfl) (by kernel_rfl) (by kernel_rfl) (fun _ _ _ h => h) (Or.inl ⟨by rfl, ?hy147⟩) (by assumption) ?rest147
          case hy147 => intro w' hSw; (try dsimp only at hSw); go_simp; try with_reducible rfl
          try simp only [Act.put, List.setIfInBounds_toArray, List.set_cons_zero, List.set_cons_succ]
          refine wpAnyH_take (i := 10) (v := ?v148) (ops_at rfl) (by kernel_rfl) (by kernel_rfl) (by kernel_rfl) (fun _ _ _ h => h) (Or.inl ⟨by rfl, ?hy148⟩) (by assumption) ?rest148
          case hy148 => intro w' hSw; (try dsimp only at hSw); go_simp; try with_reducible rfl
          try simp only [Act.put, List.setIfInBounds_toArray, List.set_cons_zero, List.set_cons_succ]
          refine wpAnyH_take (i := 13) (v := ?v149) (ops_at rfl) (by kernel_rfl) (by kernel_rfl) (by kernel_rfl) (fun _ _ _ h => h) (Or.inl ⟨by rfl, ?hy149⟩) (by assumption) ?rest149
          case hy149 => intro w' hSw; (try dsimp only at hSw); go_simp; try with_reducible rfl
          try simp only [Act.put, List.setIfInBounds_toArray, List.set_cons_zero, List.set_cons_succ]
          refine wpAnyH_take (i := 14) (v := ?v150) (ops_at rfl) (by kernel_rfl) (by kernel_rfl) (by kernel_rfl) (fun _ _ _ h => h) (Or.inl ⟨by rfl, ?hy150⟩) (by assumption) ?rest150
          case hy150 => intro w' hSw; (try dsimp only at hSw); go_simp; try with_reducible rfl
          try simp only [Act.put, List.setIfInBounds_toArray, List.set_cons_zero, List.set_cons_succ]
          refine wpAnyH_take (i := 15) (v := ?v151) (ops_at rfl) (by kernel_rfl) (by kernel_rfl) (by kernel_rfl) (fun _ _ _ h => h) (Or.inl ⟨by rfl, ?hy151⟩) (by assumption) ?rest151
          case hy151 => intro w' hSw; (try dsimp only at hSw); go_simp; try with_reducible rfl
          try simp only [Act.put, List.setIfInBounds_toArray, List.set_cons_zero, List.set_cons_succ]
          refine wpAnyH_take (i := 16) (v := ?v152) (ops_at rfl) (by kernel_rfl) (by kernel_rfl) (by kernel_rfl) (fun _ _ _ h => h) (Or.inl ⟨by rfl, ?hy152⟩) (by assumption) ?rest152
          case hy152 => intro w' hSw; (try dsimp only at hSw); go_simp; try with_reducible rfl
          try simp only [Act.put, List.setIfInBounds_toArray, List.set_cons_zero, List.set_cons_succ]
          refine wpAnyH_take (i := 17) (v := ?v153) (ops_at rfl) (by kernel_rfl) (by kernel_rfl) (by kernel_rfl) (fun _ _ _ h => h) (Or.inl ⟨by rfl, ?hy153⟩) (by assumption) ?rest153
          case hy153 => intro w' hSw; (try dsimp only at hSw); go_simp; try with_reducible rfl
          try simp only [Act.put, List.setIfInBounds_toArray, List.set_cons_zero, List.set_cons_succ]
          refine wpAnyH_take (i := 21) (v := ?v154) (ops_at rfl) (by kernel_rfl) (by kernel_rfl) (by kernel_rfl) (fun _ _ _ h => h) (Or.inl ⟨by rfl, ?hy154⟩) (by assumption) ?rest154
          case hy154 => intro w' hSw; (try dsimp only at hSw); go_simp; try with_reducible rfl
          try simp only [Act.put, List.setIfInBounds_toArray, List.set_cons_zero, List.set_cons_succ]
          refine wpAnyH_take (i := 22) (v := ?v155) (ops_at rfl) (by kernel_rfl) (by kernel_rfl) (by kernel_rfl) (fun _ _ _ h => h) (Or.inl ⟨by rfl, ?hy155⟩) (by assumption) ?rest155
          case hy155 => intro w' hSw; (try dsimp only at hSw); go_simp; try with_reducible rfl
          try simp only [Act.put, List.setIfInBounds_toArray, List.set_cons_zero, List.set_cons_succ]
          refine wpAnyH_ready (rs := [18]) (by kernel_rfl) (by simp) ?_
          refine AllReadyH.cons (ops_at rfl) (fun K hK => ?_) AllReadyH.nil
          go_simp
          refine hK.out _ _ (by exact keep S7) (fun hHeld => ?_)
          clear hK K
          try simp only [Act.put, List.setIfInBounds_toArray, List.set_cons_zero, List.set_cons_succ]
          refine wpAnyH_take (i := 19) (v := ?v156) (ops_at rfl) (by kernel_rfl) (by kernel_rfl) (by kernel_rfl) (fun _ _ _ h => h) (Or.inl ⟨by rfl, ?hy156⟩) (by assumption) ?rest156
          case hy156 => intro w' hSw; (try dsimp only at hSw); go_simp; try with_reducible rfl
          try simp only [Act.put, List.setIfInBounds_toArray, List.set_cons_zero, List.set_cons_succ]
          refine wpAnyH_take (i := 20) (v := ?v157) (ops_at rfl) (by kernel_rfl) (by kernel_rfl) (by kernel_rfl) (fun _ _ _ h => h) (Or.inl ⟨by rfl, ?hy157⟩) (by assumption) ?rest157
          case hy157 => intro w' hSw; (try dsimp only at hSw); go_simp; try with_reducible rfl
          try simp only [Act.put, List.setIfInBounds_toArray, List.set_cons_zero, List.set_cons_succ]
          refine wpAnyH_take (i := 23) (v := ?v158) (ops_at rfl) (by kernel_rfl) (by kernel_rfl) (by kernel_rfl) (fun _ _ _ h => h) (Or.inl ⟨by rfl, ?hy158⟩) (by assumption) ?rest158
          case hy158 => intro w' hSw; (try dsimp only at hSw); go_simp; try with_reducible rfl
          try simp only [Act.put, List.setIfInBounds_toArray, List.set_cons_zero, List.set_cons_succ]
          refine wpAnyH_take (i := 24) (v := ?v159) (ops_at rfl) (by kernel_rfl) (by kernel_rfl) (by kernel_rfl) (fun _ _ _ h => h) (Or.inl ⟨by rfl, ?hy159⟩) (by assumption) ?rest159
          case hy159 => intro w' hSw; (try dsimp only at hSw); go_simp; try with_reducible rfl
          try simp only [Act.put, List.setIfInBounds_toArray, List.set_cons_zero, List.set_cons_succ]
          refine wpAnyH_take (i := 25) (v := ?v160) (ops_at rfl) (by kernel_rfl) (by kernel_rfl) (by kernel_rfl) (fun _ _ _ h => h) (Or.inl ⟨by rfl, ?hy160⟩) (by assumption) ?rest160
          case hy160 => intro w' hSw; (try dsimp only at hSw); go_simp; try with_reducible rfl
          try simp only [Act.put, List.setIfInBounds_toArray, List.set_cons_zero, List.set_cons_succ]
          refine wpAnyH_take (i := 26) (v := ?v161) (ops_at rfl) (by kernel_rfl) (by kernel_rfl) (by kernel_rfl) (fun _ _ _ h => h) (Or.inl ⟨by rfl, ?hy161⟩) (by assumption) ?rest161
          case hy161 => intro w' hSw; (try dsimp only at hSw); go_simp; try with_reducible rfl
          try simp only [Act.put, List.setIfInBounds_toArray, List.set_cons_zero, List.set_cons_succ]
          refine wpAnyH_take (i := 27) (v := ?v162) (ops_at rfl) (by kernel_rfl) (by kernel_rfl) (by kernel_rfl) (fun _ _ _ h => h) (Or.inl ⟨by rfl, ?hy162⟩) (by assumption) ?rest162
          case hy162 => intro w' hSw; (try dsimp only at hSw); go_simp; try with_reducible rfl
          try simp only [Act.put, List.setIfInBounds_toArray, List.set_cons_zero, List.set_cons_succ]
          refine wpAnyH_take (i := 31) (v := ?v163) (ops_at rfl) (by kernel_rfl) (by kernel_rfl) (by kernel_rfl) (fun _ _ _ h => h) (Or.inl ⟨by rfl, ?hy163⟩) (by assumption) ?rest163
          case hy163 => intro w' hSw; (try dsimp only at hSw); go_simp; try with_reducible rfl
          try simp only [Act.put, List.setIfInBounds_toArray, List.set_cons_zero, List.set_cons_succ]
          refine wpAnyH_take (i := 32) (v := ?v164) (ops_at rfl) (by kernel_rfl) (by kernel_rfl) (by kernel_rfl) (fun _ _ _ h => h) (Or.inl ⟨by rfl, ?hy164⟩) (by assumption) ?rest164
          case hy164 => intro w' hSw; (try dsimp only at hSw); go_simp; try with_reducible rfl
          try simp only [Act.put, List.setIfInBounds_toArray, List.set_cons_zero, List.set_cons_succ]
          refine wpAnyH_ready (rs := [28]) (by kernel_rfl) (by simp) ?_
          refine AllReadyH.cons (ops_at rfl) (fun K hK => ?_) AllReadyH.nil
          go_simp
          refine hK.out _ _ (by exact keep S7) (fun hHeld => ?_)
          clear hK K
          try simp only [Act.put, List.setIfInBounds_toArray, List.set_cons_zero, List.set_cons_succ]
          refine wpAnyH_take (i := 29) (v := ?v165) (ops_at rfl) (by kernel_rfl) (by kernel_rfl) (by kernel_rfl) (fun _ _ _ h => h) (Or.inl ⟨by rfl, ?hy165⟩) (by assumption) ?rest165
          case hy165 => intro w' hSw; (try dsimp only at hSw); go_simp; try with_reducible rfl
          try simp only [Act.put, List.setIfInBounds_toArray, List.set_cons_zero, List.set_cons_succ]
          refine wpAnyH_take (i := 30) (v := ?v166) (ops_at rfl) (by kernel_rfl) (by kernel_rfl) (by kernel_rfl) (fun _ _ _ h => h) (Or.inl ⟨by rfl, ?hy166⟩) (by assumption) ?rest166
          case hy166 => intro w' hSw; (try dsimp only at hSw); go_simp; try with_reducible rfl
          try simp only [Act.put, List.setIfInBounds_toArray, List.set_cons_zero, List.set_cons_succ]
          refine wpAnyH_take (i := 33) (v := ?v167) (ops_at rfl) (by kernel_rfl) (by kernel_rfl) (by kernel_rfl) (fun _ _ _ h => h) (Or.inl ⟨by rfl, ?hy167⟩) (by assumption) ?rest167
          case hy167 => intro w' hSw; (try dsimp only at hSw); go_simp; try with_reducible rfl
          try simp only [Act.put, List.setIfInBounds_toArray, List.set_cons_zero, List.set_cons_succ]
          refine wpAnyH_take (i := 34) (v := ?v168) (ops_at rfl) (by kernel_rfl) (by kernel_rfl) (by kernel_rfl) (fun _ _ _ h => h) (Or.inl ⟨by rfl, ?hy168⟩) (by assumption) ?rest168
          case hy168 => intro w' hSw; (try dsimp only at hSw); go_simp; try with_reducible rfl
          try simp only [Act.put, List.setIfInBounds_toArray, List.set_cons_zero, List.set_cons_succ]
          refine wpAnyH_take (i := 35) (v := ?v169) (ops_at rfl) (by kernel_rfl) (by kernel_rfl) (by kernel_rfl) (fun _ _ _ h => h) (Or.inl ⟨by rfl, ?hy169⟩) (by assumption) ?rest169
          case hy169 => intro w' hSw; (try dsimp only at hSw); go_simp; try with_reducible rfl
          try simp only [Act.put, List.setIfInBounds_toArray, List.set_cons_zero, List.set_cons_succ]
          refine wpAnyH_take (i := 36) (v := undef) (ops_at rfl) (by kernel_rfl) (by kernel_rfl) (by kernel_rfl) (fun _ _ _ h => h) (Or.inr ⟨by rfl, rfl⟩) (by assumption) ?rest170
          try simp only [Act.put, List.setIfInBounds_toArray, List.set_cons_zero, List.set_cons_succ]
          refine wpAnyH_take (i := 37) (v := undef) (ops_at rfl) (by kernel_rfl) (by kernel_rfl) (by kernel_rfl) (fun _ _ _ h => h) (Or.inr ⟨by rfl, rfl⟩) (by assumption) ?rest171
          try simp only [Act.put, List.setIfInBounds_toArray, List.set_cons_zero, List.set_cons_succ]
          refine wpAnyH_take (i := 38) (v := ?v172) (ops_at rfl) (by kernel_rfl) (by kernel_rfl) (by kernel_rfl) (fun _ _ _ h => h) (Or.inl ⟨by rfl, ?hy172⟩) (by assumption) ?rest172
          case hy172 => intro w' hSw; (try dsimp only at hSw); go_simp; try with_reducible rfl
          try simp only [Act.put, List.setIfInBounds_toArray, List.set_cons_zero, List.set_cons_succ]
          refine wpAnyH_done (by kernel_rfl) ?_ _
          clear keep Sm HX
          go_wp2
          go_roundw
          case rel => exact ⟨m + 1, by omega, by rw [E.out], by go_num, S7⟩
          case measure => simp [intOf]; omega
        have HM3 : Hid (mixA y x = true) := by rw [Hid, HM1.out, b1, b2, b3]; rfl
        clear HM1
        cases b4 : decide (4 < u)
        · have E : Hid (mn v3 4 (mixR L x (m + 1)) = u) := by rw [Hid, HU.out, HM3.out, mn_kept b4]
          clear HM3 HU
          go_wp2_with fail
          refine wp_region_held_drew (S := (fun w' => ((w'.cell? A = some (.bool y.up) ∧ w'.cell? { block := A.block, off := A.off + 1 } = some (.int .i64 y.term) ∧ w'.cell? { block := A.block, off := A.off + 2 } = some (.int .i64 y.gen) ∧ w'.cell? { block := A.block, off := A.off + 3 } = some (.int .i64 y.mode) ∧ w'.cell? { block := A.block, off := A.off + 4 } = some (.int .i64 y.job) ∧ w'.cell? { block := A.block, off := A.off + 5 } = some (.int .i64 y.inc) ∧ w'.cell? { block := A.block, off := A.off + 6 } = some (.int .i64 y.version) ∧ w'.cell? { block := A.block, off := A.off + 7 } = some (.int .i64 y.lease) ∧ w'.cell? { block := A.block, off := A.off + 8 } = some (.int .i64 y.worked) ∧ w'.cell? { block := A.block, off := A.off + 9 } = some (.int .i64 y.to_)) ∧ (w'.cell? ⟨g4, 4, none⟩ = some (.int .i64 x.job) ∧ w'.cell? ⟨g4, 5, none⟩ = some (.int .i64 x.inc) ∧ w'.cell? ⟨g4, 6, none⟩ = some (.int .i64 x.version) ∧ w'.cell? ⟨g5, 3, none⟩ = some (.int .i64 j.hi) ∧ w'.cell? ⟨g5, 5, none⟩ = some (.int .i64 j.pin))))) (by kernel_rfl) (by exact keep Sm.drew) (fun hHeld => ?_)
          change wpAnyH _ _ _ _ _ 39 (Array.replicate 39 false) _ _
          refine wpAnyH_take (i := 0) (v := ?v173) (ops_at rfl) (by kernel_rfl) (by kernel_rfl) (by kernel_rfl) (fun _ _ _ h => h) (Or.inl ⟨by rfl, ?hy173⟩) (by assumption) ?rest173
          case hy173 => intro w' hSw; (try dsimp only at hSw); go_simp; try with_reducible rfl
          try simp only [Act.put, List.setIfInBounds_toArray, List.set_cons_zero, List.set_cons_succ]
          refine wpAnyH_take (i := 1) (v := ?v174) (ops_at rfl) (by kernel_rfl) (by kernel_rfl) (by kernel_rfl) (fun _ _ _ h => h) (Or.inl ⟨by rfl, ?hy174⟩) (by assumption) ?rest174
          case hy174 => intro w' hSw; (try dsimp only at hSw); go_simp; try with_reducible rfl
          try simp only [Act.put, List.setIfInBounds_toArray, List.set_cons_zero, List.set_cons_succ]
          refine wpAnyH_ready (rs := [2]) (by kernel_rfl) (by simp) ?_
          refine AllReadyH.cons (ops_at rfl) (fun K hK => ?_) AllReadyH.nil
          go_simp
          refine hK.out _ _ (by exact keep Sm.drew) (fun hHeld => ?_)
          clear hK K
          try simp only [Act.put, List.setIfInBounds_toArray, List.set_cons_zero, List.set_cons_succ]
          refine wpAnyH_take (i := 3) (v := ?v175) (ops_at rfl) (by kernel_rfl) (by kernel_rfl) (by kernel_rfl) (fun _ _ _ h => h) (Or.inl ⟨by rfl, ?hy175⟩) (by assumption) ?rest175
          case hy175 => intro w' hSw; (try dsimp only at hSw); go_simp; try with_reducible rfl
          try simp only [Act.put, List.setIfInBounds_toArray, List.set_cons_zero, List.set_cons_succ]
          refine wpAnyH_ready (rs := [4]) (by kernel_rfl) (by simp) ?_
          refine AllReadyH.cons (ops_at rfl) (fun K hK => ?_) AllReadyH.nil
          go_simp
          refine (rtHas y _).mono ?_
          rintro e w6 ⟨rfl, hb6⟩
          rw [HH1.out]
          have S7 := Sm.drew.grow hb6
          refine hK.out _ _ (by exact keep S7) (fun hHeld => ?_)
          clear hK K
          try simp only [Act.put, List.setIfInBounds_toArray, List.set_cons_zero, List.set_cons_succ]
          refine wpAnyH_take (i := 5) (v := ?v177) (ops_at rfl) (by kernel_rfl) (by kernel_rfl) (by kernel_rfl) (fun _ _ _ h => h) (Or.inl ⟨by rfl, ?hy177⟩) (by assumption) ?rest177
          case hy177 => intro w' hSw; (try dsimp only at hSw); go_simp; try with_reducible rfl
          try simp only [Act.put, List.setIfInBounds_toArray, List.set_cons_zero, List.set_cons_succ]
          refine wpAnyH_take (i := 6) (v := ?v178) (ops_at rfl) (by kernel_rfl) (by kernel_rfl) (by kernel_rfl) (fun _ _ _ h => h) (Or.inl ⟨by rfl, ?hy178⟩) (by assumption) ?rest178
          case hy178 => intro w' hSw; (try dsimp only at hSw); go_simp; try with_reducible rfl
          try simp only [Act.put, List.setIfInBounds_toArray, List.set_cons_zero, List.set_cons_succ]
          refine wpAnyH_take (i := 7) (v := ?v179) (ops_at rfl) (by kernel_rfl) (by kernel_rfl) (by kernel_rfl) (fun _ _ _ h => h) (Or.inl ⟨by rfl, ?hy179⟩) (by assumption) ?rest179
          case hy179 => intro w' hSw; (try dsimp only at hSw); go_simp; try with_reducible rfl
          try simp only [Act.put, List.setIfInBounds_toArray, List.set_cons_zero, List.set_cons_succ]
          refine wpAnyH_take (i := 11) (v := ?v180) (ops_at rfl) (by kernel_rfl) (by kernel_rfl) (by kernel_rfl) (fun _ _ _ h => h) (Or.inl ⟨by rfl, ?hy180⟩) (by assumption) ?rest180
          case hy180 => intro w' hSw; (try dsimp only at hSw); go_simp; try with_reducible rfl
          try simp only [Act.put, List.setIfInBounds_toArray, List.set_cons_zero, List.set_cons_succ]
          refine wpAnyH_take (i := 12) (v := ?v181) (ops_at rfl) (by kernel_rfl) (by kernel_rfl) (by kernel_rfl) (fun _ _ _ h => h) (Or.inl ⟨by rfl, ?hy181⟩) (by assumption) ?rest181
          case hy181 => intro w' hSw; (try dsimp only at hSw); go_simp; try with_reducible rfl
          try simp only [Act.put, List.setIfInBounds_toArray, List.set_cons_zero, List.set_cons_succ]
          refine wpAnyH_ready (rs := [8]) (by kernel_rfl) (by simp) ?_
          refine AllReadyH.cons (ops_at rfl) (fun K hK => ?_) AllReadyH.nil
          go_simp
          refine hK.out _ _ (by exact keep S7) (fun hHeld => ?_)
          clear hK K
          try simp only [Act.put, List.setIfInBounds_toArray, List.set_cons_zero, List.set_cons_succ]
          refine wpAnyH_take (i := 9) (v := ?v182) (ops_at rfl) (by kernel_rfl) (by kernel_rfl) (by kernel_rfl) (fun _ _ _ h => h) (Or.inl ⟨by rfl, ?hy182⟩) (by assumption) ?rest182
          case hy182 => intro w' hSw; (try dsimp only at hSw); go_simp; try with_reducible rfl
          try simp only [Act.put, List.setIfInBounds_toArray, List.set_cons_zero, List.set_cons_succ]
          refine wpAnyH_take (i := 10) (v := ?v183) (ops_at rfl) (by kernel_rfl) (by kernel_rfl) (by kernel_rfl) (fun _ _ _ h => h) (Or.inl ⟨by rfl, ?hy183⟩) (by assumption) ?rest183
          case hy183 => intro w' hSw; (try dsimp only at hSw); go_simp; try with_reducible rfl
          try simp only [Act.put, List.setIfInBounds_toArray, List.set_cons_zero, List.set_cons_succ]
          refine wpAnyH_take (i := 13) (v := ?v184) (ops_at rfl) (by kernel_rfl) (by kernel_rfl) (by kernel_rfl) (fun _ _ _ h => h) (Or.inl ⟨by rfl, ?hy184⟩) (by assumption) ?rest184
          case hy184 => intro w' hSw; (try dsimp only at hSw); go_simp; try with_reducible rfl
          try simp only [Act.put, List.setIfInBounds_toArray, List.set_cons_zero, List.set_cons_succ]
          refine wpAnyH_take (i := 14) (v := ?v185) (ops_at rfl) (by kernel_rfl) (by kernel_rfl) (by kernel_rfl) (fun _ _ _ h => h) (Or.inl ⟨by rfl, ?hy185⟩) (by assumption) ?rest185
          case hy185 => intro w' hSw; (try dsimp only at hSw); go_simp; try with_reducible rfl
          try simp only [Act.put, List.setIfInBounds_toArray, List.set_cons_zero, List.set_cons_succ]
          refine wpAnyH_take (i := 15) (v := ?v186) (ops_at rfl) (by kernel_rfl) (by kernel_rfl) (by kernel_rfl) (fun _ _ _ h => h) (Or.inl ⟨by rfl, ?hy186⟩) (by assumption) ?rest186
          case hy186 => intro w' hSw; (try dsimp only at hSw); go_simp; try with_reducible rfl
          try simp only [Act.put, List.setIfInBounds_toArray, List.set_cons_zero, List.set_cons_succ]
          refine wpAnyH_take (i := 16) (v := ?v187) (ops_at rfl) (by kernel_rfl) (by kernel_rfl) (by kernel_rfl) (fun _ _ _ h => h) (Or.inl ⟨by rfl, ?hy187⟩) (by assumption) ?rest187
          case hy187 => intro w' hSw; (try dsimp only at hSw); go_simp; try with_reducible rfl
          try simp only [Act.put, List.setIfInBounds_toArray, List.set_cons_zero, List.set_cons_succ]
          refine wpAnyH_take (i := 17) (v := ?v188) (ops_at rfl) (by kernel_rfl) (by kernel_rfl) (by kernel_rfl) (fun _ _ _ h => h) (Or.inl ⟨by rfl, ?hy188⟩) (by assumption) ?rest188
          case hy188 => intro w' hSw; (try dsimp only at hSw); go_simp; try with_reducible rfl
          try simp only [Act.put, List.setIfInBounds_toArray, List.set_cons_zero, List.set_cons_succ]
          refine wpAnyH_take (i := 21) (v := ?v189) (ops_at rfl) (by kernel_rfl) (by kernel_rfl) (by kernel_rfl) (fun _ _ _ h => h) (Or.inl ⟨by rfl, ?hy189⟩) (by assumption) ?rest189
          case hy189 => intro w' hSw; (try dsimp only at hSw); go_simp; try with_reducible rfl
          try simp only [Act.put, List.setIfInBounds_toArray, List.set_cons_zero, List.set_cons_succ]
          refine wpAnyH_take (i := 22) (v := ?v190) (ops_at rfl) (by kernel_rfl) (by kernel_rfl) (by kernel_rfl) (fun _ _ _ h => h) (Or.inl ⟨by rfl, ?hy190⟩) (by assumption) ?rest190
          case hy190 => intro w' hSw; (try dsimp only at hSw); go_simp; try with_reducible rfl
          try simp only [Act.put, List.setIfInBounds_toArray, List.set_cons_zero, List.set_cons_succ]
          refine wpAnyH_ready (rs := [18]) (by kernel_rfl) (by simp) ?_
          refine AllReadyH.cons (ops_at rfl) (fun K hK => ?_) AllReadyH.nil
          go_simp
          refine hK.out _ _ (by exact keep S7) (fun hHeld => ?_)
          clear hK K
          try simp only [Act.put, List.setIfInBounds_toArray, List.set_cons_zero, List.set_cons_succ]
          refine wpAnyH_take (i := 19) (v := ?v191) (ops_at rfl) (by kernel_rfl) (by kernel_rfl) (by kernel_rfl) (fun _ _ _ h => h) (Or.inl ⟨by rfl, ?hy191⟩) (by assumption) ?rest191
          case hy191 => intro w' hSw; (try dsimp only at hSw); go_simp; try with_reducible rfl
          try simp only [Act.put, List.setIfInBounds_toArray, List.set_cons_zero, List.set_cons_succ]
          refine wpAnyH_take (i := 20) (v := ?v192) (ops_at rfl) (by kernel_rfl) (by kernel_rfl) (by kernel_rfl) (fun _ _ _ h => h) (Or.inl ⟨by rfl, ?hy192⟩) (by assumption) ?rest192
          case hy192 => intro w' hSw; (try dsimp only at hSw); go_simp; try with_reducible rfl
          try simp only [Act.put, List.setIfInBounds_toArray, List.set_cons_zero, List.set_cons_succ]
          refine wpAnyH_take (i := 23) (v := ?v193) (ops_at rfl) (by kernel_rfl) (by kernel_rfl) (by kernel_rfl) (fun _ _ _ h => h) (Or.inl ⟨by rfl, ?hy193⟩) (by assumption) ?rest193
          case hy193 => intro w' hSw; (try dsimp only at hSw); go_simp; try with_reducible rfl
          try simp only [Act.put, List.setIfInBounds_toArray, List.set_cons_zero, List.set_cons_succ]
          refine wpAnyH_take (i := 24) (v := ?v194) (ops_at rfl) (by kernel_rfl) (by kernel_rfl) (by kernel_rfl) (fun _ _ _ h => h) (Or.inl ⟨by rfl, ?hy194⟩) (by assumption) ?rest194
          case hy194 => intro w' hSw; (try dsimp only at hSw); go_simp; try with_reducible rfl
          try simp only [Act.put, List.setIfInBounds_toArray, List.set_cons_zero, List.set_cons_succ]
          refine wpAnyH_take (i := 25) (v := ?v195) (ops_at rfl) (by kernel_rfl) (by kernel_rfl) (by kernel_rfl) (fun _ _ _ h => h) (Or.inl ⟨by rfl, ?hy195⟩) (by assumption) ?rest195
          case hy195 => intro w' hSw; (try dsimp only at hSw); go_simp; try with_reducible rfl
          try simp only [Act.put, List.setIfInBounds_toArray, List.set_cons_zero, List.set_cons_succ]
          refine wpAnyH_take (i := 26) (v := ?v196) (ops_at rfl) (by kernel_rfl) (by kernel_rfl) (by kernel_rfl) (fun _ _ _ h => h) (Or.inl ⟨by rfl, ?hy196⟩) (by assumption) ?rest196
          case hy196 => intro w' hSw; (try dsimp only at hSw); go_simp; try with_reducible rfl
          try simp only [Act.put, List.setIfInBounds_toArray, List.set_cons_zero, List.set_cons_succ]
          refine wpAnyH_take (i := 27) (v := ?v197) (ops_at rfl) (by kernel_rfl) (by kernel_rfl) (by kernel_rfl) (fun _ _ _ h => h) (Or.inl ⟨by rfl, ?hy197⟩) (by assumption) ?rest197
          case hy197 => intro w' hSw; (try dsimp only at hSw); go_simp; try with_reducible rfl
          try simp only [Act.put, List.setIfInBounds_toArray, List.set_cons_zero, List.set_cons_succ]
          refine wpAnyH_take (i := 31) (v := ?v198) (ops_at rfl) (by kernel_rfl) (by kernel_rfl) (by kernel_rfl) (fun _ _ _ h => h) (Or.inl ⟨by rfl, ?hy198⟩) (by assumption) ?rest198
          case hy198 => intro w' hSw; (try dsimp only at hSw); go_simp; try with_reducible rfl
          try simp only [Act.put, List.setIfInBounds_toArray, List.set_cons_zero, List.set_cons_succ]
          refine wpAnyH_take (i := 32) (v := ?v199) (ops_at rfl) (by kernel_rfl) (by kernel_rfl) (by kernel_rfl) (fun _ _ _ h => h) (Or.inl ⟨by rfl, ?hy199⟩) (by assumption) ?rest199
          case hy199 => intro w' hSw; (try dsimp only at hSw); go_simp; try with_reducible rfl
          try simp only [Act.put, List.setIfInBounds_toArray, List.set_cons_zero, List.set_cons_succ]
          refine wpAnyH_ready (rs := [28]) (by kernel_rfl) (by simp) ?_
          refine AllReadyH.cons (ops_at rfl) (fun K hK => ?_) AllReadyH.nil
          go_simp
          refine hK.out _ _ (by exact keep S7) (fun hHeld => ?_)
          clear hK K
          try simp only [Act.put, List.setIfInBounds_toArray, List.set_cons_zero, List.set_cons_succ]
          refine wpAnyH_take (i := 29) (v := ?v200) (ops_at rfl) (by kernel_rfl) (by kernel_rfl) (by kernel_rfl) (fun _ _ _ h => h) (Or.inl ⟨by rfl, ?hy200⟩) (by assumption) ?rest200
          case hy200 => intro w' hSw; (try dsimp only at hSw); go_simp; try with_reducible rfl
          try simp only [Act.put, List.setIfInBounds_toArray, List.set_cons_zero, List.set_cons_succ]
          refine wpAnyH_take (i := 30) (v := ?v201) (ops_at rfl) (by kernel_rfl) (by kernel_rfl) (by kernel_rfl) (fun _ _ _ h => h) (Or.inl ⟨by rfl, ?hy201⟩) (by assumption) ?rest201
          case hy201 => intro w' hSw; (try dsimp only at hSw); go_simp; try with_reducible rfl
          try simp only [Act.put, List.setIfInBounds_toArray, List.set_cons_zero, List.set_cons_succ]
          refine wpAnyH_take (i := 33) (v := ?v202) (ops_at rfl) (by kernel_rfl) (by kernel_rfl) (by kernel_rfl) (fun _ _ _ h => h) (Or.inl ⟨by rfl, ?hy202⟩) (by assumption) ?rest202
          case hy202 => intro w' hSw; (try dsimp only at hSw); go_simp; try with_reducible rfl
          try simp only [Act.put, List.setIfInBounds_toArray, List.set_cons_zero, List.set_cons_succ]
          refine wpAnyH_take (i := 34) (v := ?v203) (ops_at rfl) (by kernel_rfl) (by kernel_rfl) (by kernel_rfl) (fun _ _ _ h => h) (Or.inl ⟨by rfl, ?hy203⟩) (by assumption) ?rest203
          case hy203 => intro w' hSw; (try dsimp only at hSw); go_simp; try with_reducible rfl
          try simp only [Act.put, List.setIfInBounds_toArray, List.set_cons_zero, List.set_cons_succ]
          refine wpAnyH_take (i := 35) (v := ?v204) (ops_at rfl) (by kernel_rfl) (by kernel_rfl) (by kernel_rfl) (fun _ _ _ h => h) (Or.inl ⟨by rfl, ?hy204⟩) (by assumption) ?rest204
          case hy204 => intro w' hSw; (try dsimp only at hSw); go_simp; try with_reducible rfl
          try simp only [Act.put, List.setIfInBounds_toArray, List.set_cons_zero, List.set_cons_succ]
          refine wpAnyH_take (i := 36) (v := ?v205) (ops_at rfl) (by kernel_rfl) (by kernel_rfl) (by kernel_rfl) (fun _ _ _ h => h) (Or.inl ⟨by rfl, ?hy205⟩) (by assumption) ?rest205
          case hy205 => intro w' hSw; (try dsimp only at hSw); go_simp; try with_reducible rfl
          try simp only [Act.put, List.setIfInBounds_toArray, List.set_cons_zero, List.set_cons_succ]
          refine wpAnyH_take (i := 37) (v := ?v206) (ops_at rfl) (by kernel_rfl) (by kernel_rfl) (by kernel_rfl) (fun _ _ _ h => h) (Or.inl ⟨by rfl, ?hy206⟩) (by assumption) ?rest206
          case hy206 => intro w' hSw; (try dsimp only at hSw); go_simp; try with_reducible rfl
          try simp only [Act.put, List.setIfInBounds_toArray, List.set_cons_zero, List.set_cons_succ]
          refine wpAnyH_take (i := 38) (v := ?v207) (ops_at rfl) (by kernel_rfl) (by kernel_rfl) (by kernel_rfl) (fun _ _ _ h => h) (Or.inl ⟨by rfl, ?hy207⟩) (by assumption) ?rest207
          case hy207 => intro w' hSw; (try dsimp only at hSw); go_simp; try with_reducible rfl
          try simp only [Act.put, List.setIfInBounds_toArray, List.set_cons_zero, List.set_cons_succ]
          refine wpAnyH_done (by kernel_rfl) ?_ _
          clear keep Sm HX
          go_wp2
          go_roundw
          case rel => exact ⟨m + 1, by omega, by rw [E.out], by go_num, S7⟩
          case measure => simp [intOf]; omega
        · have E : Hid (mn v3 4 (mixR L x (m + 1)) = 4) := by rw [Hid, HU.out, HM3.out, mn_yes b4]
          clear HM3 HU
          go_wp2_with fail
          refine wp_region_held_drew (S := (fun w' => ((w'.cell? A = some (.bool y.up) ∧ w'.cell? { block := A.block, off := A.off + 1 } = some (.int .i64 y.term) ∧ w'.cell? { block := A.block, off := A.off + 2 } = some (.int .i64 y.gen) ∧ w'.cell? { block := A.block, off := A.off + 3 } = some (.int .i64 y.mode) ∧ w'.cell? { block := A.block, off := A.off + 4 } = some (.int .i64 y.job) ∧ w'.cell? { block := A.block, off := A.off + 5 } = some (.int .i64 y.inc) ∧ w'.cell? { block := A.block, off := A.off + 6 } = some (.int .i64 y.version) ∧ w'.cell? { block := A.block, off := A.off + 7 } = some (.int .i64 y.lease) ∧ w'.cell? { block := A.block, off := A.off + 8 } = some (.int .i64 y.worked) ∧ w'.cell? { block := A.block, off := A.off + 9 } = some (.int .i64 y.to_)) ∧ (w'.cell? ⟨g4, 4, none⟩ = some (.int .i64 x.job) ∧ w'.cell? ⟨g4, 5, none⟩ = some (.int .i64 x.inc) ∧ w'.cell? ⟨g4, 6, none⟩ = some (.int .i64 x.version) ∧ w'.cell? ⟨g5, 3, none⟩ = some (.int .i64 j.hi) ∧ w'.cell? ⟨g5, 5, none⟩ = some (.int .i64 j.pin))))) (by kernel_rfl) (by exact keep Sm.drew) (fun hHeld => ?_)
          change wpAnyH _ _ _ _ _ 39 (Array.replicate 39 false) _ _
          refine wpAnyH_take (i := 0) (v := ?v208) (ops_at rfl) (by kernel_rfl) (by kernel_rfl) (by kernel_rfl) (fun _ _ _ h => h) (Or.inl ⟨by rfl, ?hy208⟩) (by assumption) ?rest208
          case hy208 => intro w' hSw; (try dsimp only at hSw); go_simp; try with_reducible rfl
          try simp only [Act.put, List.setIfInBounds_toArray, List.set_cons_zero, List.set_cons_succ]
          refine wpAnyH_take (i := 1) (v := ?v209) (ops_at rfl) (by kernel_rfl) (by kernel_rfl) (by kernel_rfl) (fun _ _ _ h => h) (Or.inl ⟨by rfl, ?hy209⟩) (by assumption) ?rest209
          case hy209 => intro w' hSw; (try dsimp only at hSw); go_simp; try with_reducible rfl
          try simp only [Act.put, List.setIfInBounds_toArray, List.set_cons_zero, List.set_cons_succ]
          refine wpAnyH_ready (rs := [2]) (by kernel_rfl) (by simp) ?_
          refine AllReadyH.cons (ops_at rfl) (fun K hK => ?_) AllReadyH.nil
          go_simp
          refine hK.out _ _ (by exact keep Sm.drew) (fun hHeld => ?_)
          clear hK K
          try simp only [Act.put, List.setIfInBounds_toArray, List.set_cons_zero, List.set_cons_succ]
          refine wpAnyH_take (i := 3) (v := ?v210) (ops_at rfl) (by kernel_rfl) (by kernel_rfl) (by kernel_rfl) (fun _ _ _ h => h) (Or.inl ⟨by rfl, ?hy210⟩) (by assumption) ?rest210
          case hy210 => intro w' hSw; (try dsimp only at hSw); go_simp; try with_reducible rfl
          try simp only [Act.put, List.setIfInBounds_toArray, List.set_cons_zero, List.set_cons_succ]
          refine wpAnyH_ready (rs := [4]) (by kernel_rfl) (by simp) ?_
          refine AllReadyH.cons (ops_at rfl) (fun K hK => ?_) AllReadyH.nil
          go_simp
          refine (rtHas y _).mono ?_
          rintro e w6 ⟨rfl, hb6⟩
          rw [HH1.out]
          have S7 := Sm.drew.grow hb6
          refine hK.out _ _ (by exact keep S7) (fun hHeld => ?_)
          clear hK K
          try simp only [Act.put, List.setIfInBounds_toArray, List.set_cons_zero, List.set_cons_succ]
          refine wpAnyH_take (i := 5) (v := ?v212) (ops_at rfl) (by kernel_rfl) (by kernel_rfl) (by kernel_rfl) (fun _ _ _ h => h) (Or.inl ⟨by rfl, ?hy212⟩) (by assumption) ?rest212
          case hy212 => intro w' hSw; (try dsimp only at hSw); go_simp; try with_reducible rfl
          try simp only [Act.put, List.setIfInBounds_toArray, List.set_cons_zero, List.set_cons_succ]
          refine wpAnyH_take (i := 6) (v := ?v213) (ops_at rfl) (by kernel_rfl) (by kernel_rfl) (by kernel_rfl) (fun _ _ _ h => h) (Or.inl ⟨by rfl, ?hy213⟩) (by assumption) ?rest213
          case hy213 => intro w' hSw; (try dsimp only at hSw); go_simp; try with_reducible rfl
          try simp only [Act.put, List.setIfInBounds_toArray, List.set_cons_zero, List.set_cons_succ]
          refine wpAnyH_take (i := 7) (v := ?v214) (ops_at rfl) (by kernel_rfl) (by kernel_rfl) (by kernel_rfl) (fun _ _ _ h => h) (Or.inl ⟨by rfl, ?hy214⟩) (by assumption) ?rest214
          case hy214 => intro w' hSw; (try dsimp only at hSw); go_simp; try with_reducible rfl
          try simp only [Act.put, List.setIfInBounds_toArray, List.set_cons_zero, List.set_cons_succ]
          refine wpAnyH_take (i := 11) (v := ?v215) (ops_at rfl) (by kernel_rfl) (by kernel_rfl) (by kernel_rfl) (fun _ _ _ h => h) (Or.inl ⟨by rfl, ?hy215⟩) (by assumption) ?rest215
          case hy215 => intro w' hSw; (try dsimp only at hSw); go_simp; try with_reducible rfl
          try simp only [Act.put, List.setIfInBounds_toArray, List.set_cons_zero, List.set_cons_succ]
          refine wpAnyH_take (i := 12) (v := ?v216) (ops_at rfl) (by kernel_rfl) (by kernel_rfl) (by kernel_rfl) (fun _ _ _ h => h) (Or.inl ⟨by rfl, ?hy216⟩) (by assumption) ?rest216
          case hy216 => intro w' hSw; (try dsimp only at hSw); go_simp; try with_reducible rfl
          try simp only [Act.put, List.setIfInBounds_toArray, List.set_cons_zero, List.set_cons_succ]
          refine wpAnyH_ready (rs := [8]) (by kernel_rfl) (by simp) ?_
          refine AllReadyH.cons (ops_at rfl) (fun K hK => ?_) AllReadyH.nil
          go_simp
          refine hK.out _ _ (by exact keep S7) (fun hHeld => ?_)
          clear hK K
          try simp only [Act.put, List.setIfInBounds_toArray, List.set_cons_zero, List.set_cons_succ]
          refine wpAnyH_take (i := 9) (v := ?v217) (ops_at rfl) (by kernel_rfl) (by kernel_rfl) (by kernel_rfl) (fun _ _ _ h => h) (Or.inl ⟨by rfl, ?hy217⟩) (by assumption) ?rest217
          case hy217 => intro w' hSw; (try dsimp only at hSw); go_simp; try with_reducible rfl
          try simp only [Act.put, List.setIfInBounds_toArray, List.set_cons_zero, List.set_cons_succ]
          refine wpAnyH_take (i := 10) (v := ?v218) (ops_at rfl) (by kernel_rfl) (by kernel_rfl) (by kernel_rfl) (fun _ _ _ h => h) (Or.inl ⟨by rfl, ?hy218⟩) (by assumption) ?rest218
          case hy218 => intro w' hSw; (try dsimp only at hSw); go_simp; try with_reducible rfl
          try simp only [Act.put, List.setIfInBounds_toArray, List.set_cons_zero, List.set_cons_succ]
          refine wpAnyH_take (i := 13) (v := ?v219) (ops_at rfl) (by kernel_rfl) (by kernel_rfl) (by kernel_rfl) (fun _ _ _ h => h) (Or.inl ⟨by rfl, ?hy219⟩) (by assumption) ?rest219
          case hy219 => intro w' hSw; (try dsimp only at hSw); go_simp; try with_reducible rfl
          try simp only [Act.put, List.setIfInBounds_toArray, List.set_cons_zero, List.set_cons_succ]
          refine wpAnyH_take (i := 14) (v := ?v220) (ops_at rfl) (by kernel_rfl) (by kernel_rfl) (by kernel_rfl) (fun _ _ _ h => h) (Or.inl ⟨by rfl, ?hy220⟩) (by assumption) ?rest220
          case hy220 => intro w' hSw; (try dsimp only at hSw); go_simp; try with_reducible rfl
          try simp only [Act.put, List.setIfInBounds_toArray, List.set_cons_zero, List.set_cons_succ]
          refine wpAnyH_take (i := 15) (v := ?v221) (ops_at rfl) (by kernel_rfl) (by kernel_rfl) (by kernel_rfl) (fun _ _ _ h => h) (Or.inl ⟨by rfl, ?hy221⟩) (by assumption) ?rest221
          case hy221 => intro w' hSw; (try dsimp only at hSw); go_simp; try with_reducible rfl
          try simp only [Act.put, List.setIfInBounds_toArray, List.set_cons_zero, List.set_cons_succ]
          refine wpAnyH_take (i := 16) (v := ?v222) (ops_at rfl) (by kernel_rfl) (by kernel_rfl) (by kernel_rfl) (fun _ _ _ h => h) (Or.inl ⟨by rfl, ?hy222⟩) (by assumption) ?rest222
          case hy222 => intro w' hSw; (try dsimp only at hSw); go_simp; try with_reducible rfl
          try simp only [Act.put, List.setIfInBounds_toArray, List.set_cons_zero, List.set_cons_succ]
          refine wpAnyH_take (i := 17) (v := ?v223) (ops_at rfl) (by kernel_rfl) (by kernel_rfl) (by kernel_rfl) (fun _ _ _ h => h) (Or.inl ⟨by rfl, ?hy223⟩) (by assumption) ?rest223
          case hy223 => intro w' hSw; (try dsimp only at hSw); go_simp; try with_reducible rfl
          try simp only [Act.put, List.setIfInBounds_toArray, List.set_cons_zero, List.set_cons_succ]
          refine wpAnyH_take (i := 21) (v := ?v224) (ops_at rfl) (by kernel_rfl) (by kernel_rfl) (by kernel_rfl) (fun _ _ _ h => h) (Or.inl ⟨by rfl, ?hy224⟩) (by assumption) ?rest224
          case hy224 => intro w' hSw; (try dsimp only at hSw); go_simp; try with_reducible rfl
          try simp only [Act.put, List.setIfInBounds_toArray, List.set_cons_zero, List.set_cons_succ]
          refine wpAnyH_take (i := 22) (v := ?v225) (ops_at rfl) (by kernel_rfl) (by kernel_rfl) (by kernel_rfl) (fun _ _ _ h => h) (Or.inl ⟨by rfl, ?hy225⟩) (by assumption) ?rest225
          case hy225 => intro w' hSw; (try dsimp only at hSw); go_simp; try with_reducible rfl
          try simp only [Act.put, List.setIfInBounds_toArray, List.set_cons_zero, List.set_cons_succ]
          refine wpAnyH_ready (rs := [18]) (by kernel_rfl) (by simp) ?_
          refine AllReadyH.cons (ops_at rfl) (fun K hK => ?_) AllReadyH.nil
          go_simp
          refine hK.out _ _ (by exact keep S7) (fun hHeld => ?_)
          clear hK K
          try simp only [Act.put, List.setIfInBounds_toArray, List.set_cons_zero, List.set_cons_succ]
          refine wpAnyH_take (i := 19) (v := ?v226) (ops_at rfl) (by kernel_rfl) (by kernel_rfl) (by kernel_rfl) (fun _ _ _ h => h) (Or.inl ⟨by rfl, ?hy226⟩) (by assumption) ?rest226
          case hy226 => intro w' hSw; (try dsimp only at hSw); go_simp; try with_reducible rfl
          try simp only [Act.put, List.setIfInBounds_toArray, List.set_cons_zero, List.set_cons_succ]
          refine wpAnyH_take (i := 20) (v := ?v227) (ops_at rfl) (by kernel_rfl) (by kernel_rfl) (by kernel_rfl) (fun _ _ _ h => h) (Or.inl ⟨by rfl, ?hy227⟩) (by assumption) ?rest227
          case hy227 => intro w' hSw; (try dsimp only at hSw); go_simp; try with_reducible rfl
          try simp only [Act.put, List.setIfInBounds_toArray, List.set_cons_zero, List.set_cons_succ]
          refine wpAnyH_take (i := 23) (v := ?v228) (ops_at rfl) (by kernel_rfl) (by kernel_rfl) (by kernel_rfl) (fun _ _ _ h => h) (Or.inl ⟨by rfl, ?hy228⟩) (by assumption) ?rest228
          case hy228 => intro w' hSw; (try dsimp only at hSw); go_simp; try with_reducible rfl
          try simp only [Act.put, List.setIfInBounds_toArray, List.set_cons_zero, List.set_cons_succ]
          refine wpAnyH_take (i := 24) (v := ?v229) (ops_at rfl) (by kernel_rfl) (by kernel_rfl) (by kernel_rfl) (fun _ _ _ h => h) (Or.inl ⟨by rfl, ?hy229⟩) (by assumption) ?rest229
          case hy229 => intro w' hSw; (try dsimp only at hSw); go_simp; try with_reducible rfl
          try simp only [Act.put, List.setIfInBounds_toArray, List.set_cons_zero, List.set_cons_succ]
          refine wpAnyH_take (i := 25) (v := ?v230) (ops_at rfl) (by kernel_rfl) (by kernel_rfl) (by kernel_rfl) (fun _ _ _ h => h) (Or.inl ⟨by rfl, ?hy230⟩) (by assumption) ?rest230
          case hy230 => intro w' hSw; (try dsimp only at hSw); go_simp; try with_reducible rfl
          try simp only [Act.put, List.setIfInBounds_toArray, List.set_cons_zero, List.set_cons_succ]
          refine wpAnyH_take (i := 26) (v := ?v231) (ops_at rfl) (by kernel_rfl) (by kernel_rfl) (by kernel_rfl) (fun _ _ _ h => h) (Or.inl ⟨by rfl, ?hy231⟩) (by assumption) ?rest231
          case hy231 => intro w' hSw; (try dsimp only at hSw); go_simp; try with_reducible rfl
          try simp only [Act.put, List.setIfInBounds_toArray, List.set_cons_zero, List.set_cons_succ]
          refine wpAnyH_take (i := 27) (v := ?v232) (ops_at rfl) (by kernel_rfl) (by kernel_rfl) (by kernel_rfl) (fun _ _ _ h => h) (Or.inl ⟨by rfl, ?hy232⟩) (by assumption) ?rest232
          case hy232 => intro w' hSw; (try dsimp only at hSw); go_simp; try with_reducible rfl
          try simp only [Act.put, List.setIfInBounds_toArray, List.set_cons_zero, List.set_cons_succ]
          refine wpAnyH_take (i := 31) (v := ?v233) (ops_at rfl) (by kernel_rfl) (by kernel_rfl) (by kernel_rfl) (fun _ _ _ h => h) (Or.inl ⟨by rfl, ?hy233⟩) (by assumption) ?rest233
          case hy233 => intro w' hSw; (try dsimp only at hSw); go_simp; try with_reducible rfl
          try simp only [Act.put, List.setIfInBounds_toArray, List.set_cons_zero, List.set_cons_succ]
          refine wpAnyH_take (i := 32) (v := ?v234) (ops_at rfl) (by kernel_rfl) (by kernel_rfl) (by kernel_rfl) (fun _ _ _ h => h) (Or.inl ⟨by rfl, ?hy234⟩) (by assumption) ?rest234
          case hy234 => intro w' hSw; (try dsimp only at hSw); go_simp; try with_reducible rfl
          try simp only [Act.put, List.setIfInBounds_toArray, List.set_cons_zero, List.set_cons_succ]
          refine wpAnyH_ready (rs := [28]) (by kernel_rfl) (by simp) ?_
          refine AllReadyH.cons (ops_at rfl) (fun K hK => ?_) AllReadyH.nil
          go_simp
          refine hK.out _ _ (by exact keep S7) (fun hHeld => ?_)
          clear hK K
          try simp only [Act.put, List.setIfInBounds_toArray, List.set_cons_zero, List.set_cons_succ]
          refine wpAnyH_take (i := 29) (v := ?v235) (ops_at rfl) (by kernel_rfl) (by kernel_rfl) (by kernel_rfl) (fun _ _ _ h => h) (Or.inl ⟨by rfl, ?hy235⟩) (by assumption) ?rest235
          case hy235 => intro w' hSw; (try dsimp only at hSw); go_simp; try with_reducible rfl
          try simp only [Act.put, List.setIfInBounds_toArray, List.set_cons_zero, List.set_cons_succ]
          refine wpAnyH_take (i := 30) (v := ?v236) (ops_at rfl) (by kernel_rfl) (by kernel_rfl) (by kernel_rfl) (fun _ _ _ h => h) (Or.inl ⟨by rfl, ?hy236⟩) (by assumption) ?rest236
          case hy236 => intro w' hSw; (try dsimp only at hSw); go_simp; try with_reducible rfl
          try simp only [Act.put, List.setIfInBounds_toArray, List.set_cons_zero, List.set_cons_succ]
          refine wpAnyH_take (i := 33) (v := ?v237) (ops_at rfl) (by kernel_rfl) (by kernel_rfl) (by kernel_rfl) (fun _ _ _ h => h) (Or.inl ⟨by rfl, ?hy237⟩) (by assumption) ?rest237
          case hy237 => intro w' hSw; (try dsimp only at hSw); go_simp; try with_reducible rfl
          try simp only [Act.put, List.setIfInBounds_toArray, List.set_cons_zero, List.set_cons_succ]
          refine wpAnyH_take (i := 34) (v := ?v238) (ops_at rfl) (by kernel_rfl) (by kernel_rfl) (by kernel_rfl) (fun _ _ _ h => h) (Or.inl ⟨by rfl, ?hy238⟩) (by assumption) ?rest238
          case hy238 => intro w' hSw; (try dsimp only at hSw); go_simp; try with_reducible rfl
          try simp only [Act.put, List.setIfInBounds_toArray, List.set_cons_zero, List.set_cons_succ]
          refine wpAnyH_take (i := 35) (v := ?v239) (ops_at rfl) (by kernel_rfl) (by kernel_rfl) (by kernel_rfl) (fun _ _ _ h => h) (Or.inl ⟨by rfl, ?hy239⟩) (by assumption) ?rest239
          case hy239 => intro w' hSw; (try dsimp only at hSw); go_simp; try with_reducible rfl
          try simp only [Act.put, List.setIfInBounds_toArray, List.set_cons_zero, List.set_cons_succ]
          refine wpAnyH_take (i := 36) (v := ?v240) (ops_at rfl) (by kernel_rfl) (by kernel_rfl) (by kernel_rfl) (fun _ _ _ h => h) (Or.inl ⟨by rfl, ?hy240⟩) (by assumption) ?rest240
          case hy240 => intro w' hSw; (try dsimp only at hSw); go_simp; try with_reducible rfl
          try simp only [Act.put, List.setIfInBounds_toArray, List.set_cons_zero, List.set_cons_succ]
          refine wpAnyH_take (i := 37) (v := ?v241) (ops_at rfl) (by kernel_rfl) (by kernel_rfl) (by kernel_rfl) (fun _ _ _ h => h) (Or.inl ⟨by rfl, ?hy241⟩) (by assumption) ?rest241
          case hy241 => intro w' hSw; (try dsimp only at hSw); go_simp; try with_reducible rfl
          try simp only [Act.put, List.setIfInBounds_toArray, List.set_cons_zero, List.set_cons_succ]
          refine wpAnyH_take (i := 38) (v := ?v242) (ops_at rfl) (by kernel_rfl) (by kernel_rfl) (by kernel_rfl) (fun _ _ _ h => h) (Or.inl ⟨by rfl, ?hy242⟩) (by assumption) ?rest242
          case hy242 => intro w' hSw; (try dsimp only at hSw); go_simp; try with_reducible rfl
          try simp only [Act.put, List.setIfInBounds_toArray, List.set_cons_zero, List.set_cons_succ]
          refine wpAnyH_done (by kernel_rfl) ?_ _
          clear keep Sm HX
          go_wp2
          go_roundw
          case rel => exact ⟨m + 1, by omega, by rw [E.out], by go_num, S7⟩
          case measure => simp [intOf]; omega
    -- the jobs
    have g0 : decide ((k : Int) < (ln : Int)) = false := decide_eq_false (by omega)
    have g0n : decide (k < ln) = false := decide_eq_false (by omega)
    have hkl : k = L.length := by rw [HN.out]; omega
    have HR1 : Hid (whyN s L (some o) true = if mn (whyK s L k) 5 (lostK s (some o) s.jn) = 7 then 0 else mn (whyK s L k) 5 (lostK s (some o) s.jn)) := by
      rw [Hid, whyR_eq s L (some o) (fun x hx => by obtain ⟨i, hi, rfl⟩ := List.getElem_of_mem hx; exact HNS.out i hi (by omega)), whyR, hkl]
    have hrange := whyK_range s L k
    clear HNS hkl hlt hk
    obtain ⟨v, hv⟩ : ∃ v, whyK s L k = v := ⟨_, rfl⟩
    rw [hv] at HR1 hrange ⊢
    clear hv
    go_wp2_with fail
    clear y0 y1 y2 y3 y4 y5
    go_loopw [9, 14, 15, 16] (fun u i z1 z2 wr => ∃ (m : Nat) (x1 x2 : Value), m ≤ s.jn ∧ u = .int .i64 (mn v 5 (lostK s (some o) m)) ∧ i = .int .i64 m ∧ z1 = x1 ∧ z2 = x2 ∧ St w wr [cellsT g2 38 c.cs, cellsT g3 25 s.cs]) (fun _ i _ _ _ => s.jn - (intOf i).toNat)
    case atStart => exact ⟨0, _, _, Nat.zero_le _, rfl, rfl, rfl, rfl, Sk⟩
    case round =>
      obtain ⟨m, x1, x2, hm, rfl, rfl, rfl, rfl, Sm⟩ := hrel
      clear Sk
      obtain ⟨y0, y1, y2, y3, y4, y5⟩ := Sm.sC 1 rfl
      by_cases hmt : m < s.jn
      case pos =>
        have g1 : decide ((m : Int) < (s.jn : Int)) = true := decide_eq_true (by omega)
        have g1n : decide (m < s.jn) = true := decide_eq_true (by omega)
        have hml : m < s.J.length := by rw [HS.out.jn]; exact hmt
        have i0 := fun wx => idxJB s.ja s.jn s.jc (fun h => HS.out.j.ok (by rw [HS.out.jn]; exact h)) m m rfl hmt wx
        obtain ⟨j0, j1, j2, j3, j4, j5, j6, j7, j8, j9, j10, j11⟩ := (HS.out.j.all eJBok Sm.fin).jbAt hml
        have hep := (HF.out.job m hml).epoch
        have HL : Hid (lostK s (some o) (m + 1) = (lostK s (some o) m || lostJ (some o) m s.J[m])) := by rw [Hid, lostK, List.getElem?_eq_getElem hml]
        generalize s.J[m] = j at *
        generalize adr s.ja (m * 12) = A at *
        generalize lostK s (some o) m = b at *
        obtain ⟨u, hu⟩ : ∃ u, mn v 5 b = u := ⟨_, rfl⟩
        obtain ⟨gb, hgb⟩ : ∃ gb, (qGet q ((m : Int) + 1) j.epoch).isSome = gb := ⟨_, rfl⟩
        have HU : Hid (mn v 5 (lostK s (some o) (m + 1)) = mn u 5 ((j.phase != 4) && (decide (0 < j.epoch) && !gb))) := by
          have e1 : (j.epoch != 0) = decide (0 < j.epoch) := by rw [Bool.eq_iff_iff]; simp; omega
          rw [Hid, HL.out, ← mn_or, hu, lostJ, show oGet (some o) ((m : Int) + 1) j.epoch = qGet q ((m : Int) + 1) j.epoch from HR.out.get _ _, hgb, e1]
        have HG := hid hgb
        rw [hu]
        clear hu HL hgb hep
        go_wp2_with fail
        refine (rqGet_any (S.grow Sm.fin) hql ((m : Int) + 1) j.epoch).mono ?_
        rintro e wg ⟨ag, cg, rfl, -, -, rfl⟩
        rw [HG.out]
        cases c1 : (j.phase != 4)
        · have E : Hid (mn v 5 (lostK s (some o) (m + 1)) = u) := by rw [Hid, HU.out, c1]; rfl
          go_wp2
          go_roundw
          case rel => exact ⟨m + 1, _, _, by omega, by rw [E.out], by go_num, rfl, rfl, Sm⟩
          case measure => simp [intOf]; omega
        cases c2 : decide (0 < j.epoch)
        · have E : Hid (mn v 5 (lostK s (some o) (m + 1)) = u) := by rw [Hid, HU.out, c1, c2]; rfl
          go_wp2
          go_roundw
          case rel => exact ⟨m + 1, _, _, by omega, by rw [E.out], by go_num, rfl, rfl, Sm⟩
          case measure => simp [intOf]; omega
        cases gb
        case true =>
          have E : Hid (mn v 5 (lostK s (some o) (m + 1)) = u) := by rw [Hid, HU.out, c1, c2]; rfl
          go_wp2
          go_roundw
          case rel => exact ⟨m + 1, _, _, by omega, by rw [E.out], by go_num, rfl, rfl, Sm⟩
          case measure => simp [intOf]; omega
        have HU2 : Hid (mn v 5 (lostK s (some o) (m + 1)) = mn u 5 true) := by rw [Hid, HU.out, c1, c2]; rfl
        cases c4 : decide (5 < u)
        · have E : Hid (mn v 5 (lostK s (some o) (m + 1)) = u) := by rw [Hid, HU2.out, mn_kept c4]
          go_wp2
          go_roundw
          case rel => exact ⟨m + 1, _, _, by omega, by rw [E.out], by go_num, rfl, rfl, Sm⟩
          case measure => simp [intOf]; omega
        · have E : Hid (mn v 5 (lostK s (some o) (m + 1)) = 5) := by rw [Hid, HU2.out, mn_yes c4]
          go_wp2
          go_roundw
          case rel => exact ⟨m + 1, _, _, by omega, by rw [E.out], by go_num, rfl, rfl, Sm⟩
          case measure => simp [intOf]; omega
      have g1 : decide ((m : Int) < (s.jn : Int)) = false := decide_eq_false (by omega)
      have g1n : decide (m < s.jn) = false := decide_eq_false (by omega)
      have hmj : m = s.jn := by omega
      have hu7 := mn_lt v 5 (lostK s (some o) s.jn) hrange.2
      rw [← hmj] at HR1 hu7
      obtain ⟨u, hu⟩ : ∃ u, mn v 5 (lostK s (some o) m) = u := ⟨_, rfl⟩
      rw [hu] at HR1 hu7 ⊢
      clear hu hmj hmt hm hrange
      by_cases h7 : u = 7
      · subst h7
        have E : Hid (whyN s L (some o) true = 0) := by rw [Hid, HR1.out]; rfl
        clear HR1
        obtain ⟨x0, x1, x2, x3, x4, x5, x6, x7, x8⟩ := Sm.cfC 0 rfl
        go_wp2_with fail
        refine (ryRight _ c s (HS.out.all Sm.fin) HF.out).mono ?_
        rintro e wg ⟨rfl, hbg⟩
        have Sg := Sm.grow hbg
        go_wp2
        go_ret
        exact ⟨by rw [E.out]; rfl, Sg.fin⟩
      · have c1 : decide (6 < u) = false := decide_eq_false (by omega)
        have c2 : (u == 7) = false := by simpa using h7
        have E : Hid (whyN s L (some o) true = u) := by rw [Hid, HR1.out, if_neg h7]
        clear HR1 h7
        go_wp2
        go_ret
        exact ⟨by rw [E.out]; rfl, Sm.fin⟩
end
end Go.Proofs.Ytilobmefomoemaa
