/- Watch: a lost checkpoint. -/
import Derived.Test.YtilobmefomoemaaWatch7
namespace Go.Proofs.Ytilobmefomoemaa
set_option linter.unusedVariables false
set_option linter.unusedSimpArgs false
open Go.RowKit
def lostJ (o : Option SS) (i : Nat) (j : JB) : Bool := (j.phase != 4) && ((j.epoch != 0) && !(oGet o ((i : Int) + 1) j.epoch).isSome)
def lostK (s : STA) (o : Option SS) : Nat → Bool
  | 0 => false
  | k + 1 => lostK s o k || (match s.J[k]? with | some j => lostJ o k j | none => false)
theorem lostK_up (s : STA) (o : Option SS) {k : Nat} (h : lostK s o k = true) : ∀ n, k ≤ n → lostK s o n = true
  | 0, hn => by obtain rfl : k = 0 := by omega
                exact h
  | n + 1, hn => by
    by_cases e : k = n + 1
    · subst e; exact h
    · rw [lostK, lostK_up s o h n (by omega)]; rfl
section
variable {w0 w : World} {r : List Thing} {k : Nat} {sv : Value} {o : Option SS}
set_option maxRecDepth 10000 in
set_option maxHeartbeats 12800000 in
theorem wtLost (S : St w0 w r) (hk : r[k]? = some (soT sv o)) (c : CF) (s : STA) (la : Option Addr) (ln lc : Nat) (hs : s.At w) :
    Calls Try.prog 41 #[.agg #[.int .i64 c.nodes, .int .i64 c.queues, .int .i64 c.quota, .int .i64 c.wave, .int .i64 c.lease, .int .i64 c.retry, .int .i64 c.deadline, .int .i64 c.room, .int .i64 c.disk, .slice s.na s.nn s.nc, .slice s.ja s.jn s.jc, .int .i64 s.goal, .int .i64 s.prior, .int .i64 s.mode, .int .i64 s.term, .slice la ln lc, sv]] w fun e w' => e = .returned (.bool (lostK s o s.jn)) ∧ Below w.heap.size w w' := by
  have S1 : St w _ [cellsT w.heap.size 77 (#[.int .i64 c.nodes, .int .i64 c.queues, .int .i64 c.quota, .int .i64 c.wave, .int .i64 c.lease, .int .i64 c.retry, .int .i64 c.deadline, .int .i64 c.room, .int .i64 c.disk, .slice s.na s.nn s.nc, .slice s.ja s.jn s.jc, .int .i64 s.goal, .int .i64 s.prior, .int .i64 s.mode, .int .i64 s.term, .slice la ln lc, sv] : Array Value).toList] := (St.start w).newAt 77 #[.int .i64 c.nodes, .int .i64 c.queues, .int .i64 c.quota, .int .i64 c.wave, .int .i64 c.lease, .int .i64 c.retry, .int .i64 c.deadline, .int .i64 c.room, .int .i64 c.disk, .slice s.na s.nn s.nc, .slice s.ja s.jn s.jc, .int .i64 s.goal, .int .i64 s.prior, .int .i64 s.mode, .int .i64 s.term, .slice la ln lc, sv] w.heap.size rfl
  have HS := hid hs
  have HK := hid hk
  have hjm := hs.jm
  unfold maxLen at hjm
  clear hs hk
  go_enter Try.func41, Try.ntmps41
  go_wp2_with fail
  generalize w.heap.size = g1 at *
  generalize w.alloc _ = w1 at *
  go_loopw [11] (fun i wr => ∃ q : Nat, q ≤ s.jn ∧ i = .int .i64 q ∧ lostK s o q = false ∧ St w wr [cellsT g1 77 (#[.int .i64 c.nodes, .int .i64 c.queues, .int .i64 c.quota, .int .i64 c.wave, .int .i64 c.lease, .int .i64 c.retry, .int .i64 c.deadline, .int .i64 c.room, .int .i64 c.disk, .slice s.na s.nn s.nc, .slice s.ja s.jn s.jc, .int .i64 s.goal, .int .i64 s.prior, .int .i64 s.mode, .int .i64 s.term, .slice la ln lc, sv] : Array Value).toList]) (fun i _ => s.jn - (intOf i).toNat)
  case atStart => exact ⟨0, Nat.zero_le _, rfl, rfl, S1⟩
  case round =>
    obtain ⟨q, hq, rfl, hno, Sk⟩ := hrel
    have HNo := hid hno
    clear S1 hno
    by_cases hlt : q < s.jn
    case neg =>
      have g0 : decide ((q : Int) < (s.jn : Int)) = false := decide_eq_false (by omega)
      have g0n : decide (q < s.jn) = false := decide_eq_false (by omega)
      have E : Hid (lostK s o s.jn = false) := by rw [Hid, show s.jn = q by omega]; exact HNo.out
      clear hlt
      go_wp2
      go_ret
      exact ⟨by rw [E.out]; rfl, Sk.fin⟩
    have g0 : decide ((q : Int) < (s.jn : Int)) = true := decide_eq_true (by omega)
    have g0n : decide (q < s.jn) = true := decide_eq_true (by omega)
    have hl : q < s.J.length := by rw [HS.out.jn]; exact hlt
    have i0 := fun wx => idxJB s.ja s.jn s.jc (fun h => HS.out.j.ok (by rw [HS.out.jn]; exact h)) q q rfl hlt wx
    obtain ⟨j0, j1, j2, j3, j4, j5, j6, j7, j8, j9, j10, j11⟩ := (HS.out.j.all eJBok Sk.fin).jbAt hl
    have HT : Hid (lostK s o (q + 1) = lostJ o q s.J[q]) := by rw [Hid, lostK, HNo.out, List.getElem?_eq_getElem hl]; rfl
    have HY : Hid (lostJ o q s.J[q] = true → lostK s o s.jn = true) := fun h => lostK_up s o (k := q + 1) (by rw [HT.out]; exact h) _ (by omega)
    generalize s.J[q] = j at *
    generalize adr s.ja (q * 12) = B at *
    have S2 : St w (wr.alloc (.cells #[.int .i64 j.queue, .int .i64 j.prio, .int .i64 j.lo, .int .i64 j.hi, .int .i64 j.work, .int .i64 j.pin, .int .i64 j.phase, .int .i64 j.inc, .int .i64 j.nodes, .int .i64 j.since, .int .i64 j.until_, .int .i64 j.epoch] 52)) [cellsT wr.heap.size 52 j.cs, cellsT g1 77 (#[.int .i64 c.nodes, .int .i64 c.queues, .int .i64 c.quota, .int .i64 c.wave, .int .i64 c.lease, .int .i64 c.retry, .int .i64 c.deadline, .int .i64 c.room, .int .i64 c.disk, .slice s.na s.nn s.nc, .slice s.ja s.jn s.jc, .int .i64 s.goal, .int .i64 s.prior, .int .i64 s.mode, .int .i64 s.term, .slice la ln lc, sv] : Array Value).toList] := (newAtG Sk 52 #[.int .i64 j.queue, .int .i64 j.prio, .int .i64 j.lo, .int .i64 j.hi, .int .i64 j.work, .int .i64 j.pin, .int .i64 j.phase, .int .i64 j.inc, .int .i64 j.nodes, .int .i64 j.since, .int .i64 j.until_, .int .i64 j.epoch] _ rfl).rot
    have v16 := S2.cell 1 rfl 16 rfl
    go_wp2_with fail
    generalize wr.heap.size = g4 at *
    generalize wr.alloc _ = w2 at *
    clear Sk j0 j1 j2 j3 j4 j5 j6 j7 j8 j9 j10 j11 v16 i0 HNo
    refine (soGet (S.grow S2.fin) k HK.out ((q : Int) + 1) j.epoch).mono ?_
    rintro e w3 ⟨a3, c3, rfl, ho, hb3⟩
    have S3 := S2.grow hb3
    obtain ⟨ok, hok⟩ : ∃ ok, (oGet o ((q : Int) + 1) j.epoch).isSome = ok := ⟨_, rfl⟩
    obtain ⟨D, hD⟩ : ∃ D, (oGet o ((q : Int) + 1) j.epoch).getD [] = D := ⟨_, rfl⟩
    rw [hok, hD]
    have HJ : Hid (lostJ o q j = ((j.phase != 4) && ((j.epoch != 0) && !ok))) := by rw [Hid, lostJ, hok]
    have p6 := S3.cell 0 rfl 6 rfl
    have p11 := S3.cell 0 rfl 11 rfl
    clear ho hb3 hok hD S2
    cases b1 : (j.phase != 4)
    · have E : Hid (lostK s o (q + 1) = false) := by rw [Hid, HT.out, HJ.out, b1]; rfl
      clear HT HY HJ
      go_wp2
      go_roundw
      case rel => exact ⟨q + 1, by omega, by go_num, E.out, S3.tail⟩
      case measure => simp [intOf]; omega
    cases b2 : (j.epoch != 0)
    · have E : Hid (lostK s o (q + 1) = false) := by rw [Hid, HT.out, HJ.out, b1, b2]; rfl
      clear HT HY HJ
      go_wp2
      go_roundw
      case rel => exact ⟨q + 1, by omega, by go_num, E.out, S3.tail⟩
      case measure => simp [intOf]; omega
    cases ok
    · have E : Hid (lostK s o s.jn = true) := HY.out (by rw [HJ.out, b1, b2]; rfl)
      clear HT HY HJ
      go_wp2
      go_ret
      exact ⟨by rw [E.out]; rfl, S3.fin⟩
    · have E : Hid (lostK s o (q + 1) = false) := by rw [Hid, HT.out, HJ.out, b1, b2]; rfl
      clear HT HY HJ
      go_wp2
      go_roundw
      case rel => exact ⟨q + 1, by omega, by go_num, E.out, S3.tail⟩
      case measure => simp [intOf]; omega
end
end Go.Proofs.Ytilobmefomoemaa
