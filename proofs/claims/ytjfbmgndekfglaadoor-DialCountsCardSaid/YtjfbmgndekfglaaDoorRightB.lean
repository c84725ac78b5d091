/- book.Right as an explicit value: May, asked; how many bits. -/
import Derived.Test.YtjfbmgndekfglaaDoorRight3
namespace Go.Proofs.YtjfbmgndekfglaaDoor
set_option linter.unusedVariables false
set_option linter.unusedSimpArgs false
open Go.RowKit
def mayB (c : CF) : Bool := inR c.nodes 1 6 && (inR c.queues 1 3 && (inR c.quota 0 4 && (inR c.wave 1 6 && (inR c.lease 2 30 && (inR c.retry 1 20 && (inR c.deadline 1 60 && (inR c.room 0 5000 && (inR c.disk 2000 40000))))))))
set_option maxRecDepth 10000 in
set_option maxHeartbeats 3200000 in
theorem bxMay (c : CF) (w : World) : Calls Tryd.prog 17 #[.agg #[.int .i64 c.nodes, .int .i64 c.queues, .int .i64 c.quota, .int .i64 c.wave, .int .i64 c.lease, .int .i64 c.retry, .int .i64 c.deadline, .int .i64 c.room, .int .i64 c.disk]] w fun e w' => e = .returned (.bool (mayB c)) ∧ Below w.heap.size w w' := by
  have hb := ((St.start w).alloc (.cells #[.int .i64 c.nodes, .int .i64 c.queues, .int .i64 c.quota, .int .i64 c.wave, .int .i64 c.lease, .int .i64 c.retry, .int .i64 c.deadline, .int .i64 c.room, .int .i64 c.disk] 23)).fin
  go_enter Tryd.func17, Tryd.ntmps17
  go_wp2_with fail
  refine (bkIn c.nodes 1 6 _).mono ?_
  rintro e wx ⟨rfl, rfl⟩
  cases hq : inR c.nodes 1 6
  · have E : Hid (mayB c = false) := by rw [Hid, mayB, hq]; rfl
    clear hq
    go_wp2
    go_ret
    exact ⟨by rw [E.out]; rfl, hb⟩
  have HQ0 := hid hq
  clear hq
  go_wp2_with fail
  refine (bkIn c.queues 1 3 _).mono ?_
  rintro e wx ⟨rfl, rfl⟩
  cases hq : inR c.queues 1 3
  · have E : Hid (mayB c = false) := by rw [Hid, mayB, HQ0.out, hq]; rfl
    clear hq
    go_wp2
    go_ret
    exact ⟨by rw [E.out]; rfl, hb⟩
  have HQ1 := hid hq
  clear hq
  go_wp2_with fail
  refine (bkIn c.quota 0 4 _).mono ?_
  rintro e wx ⟨rfl, rfl⟩
  cases hq : inR c.quota 0 4
  · have E : Hid (mayB c = false) := by rw [Hid, mayB, HQ0.out, HQ1.out, hq]; rfl
    clear hq
    go_wp2
    go_ret
    exact ⟨by rw [E.out]; rfl, hb⟩
  have HQ2 := hid hq
  clear hq
  go_wp2_with fail
  refine (bkIn c.wave 1 6 _).mono ?_
  rintro e wx ⟨rfl, rfl⟩
  cases hq : inR c.wave 1 6
  · have E : Hid (mayB c = false) := by rw [Hid, mayB, HQ0.out, HQ1.out, HQ2.out, hq]; rfl
    clear hq
    go_wp2
    go_ret
    exact ⟨by rw [E.out]; rfl, hb⟩
  have HQ3 := hid hq
  clear hq
  go_wp2_with fail
  refine (bkIn c.lease 2 30 _).mono ?_
  rintro e wx ⟨rfl, rfl⟩
  cases hq : inR c.lease 2 30
  · have E : Hid (mayB c = false) := by rw [Hid, mayB, HQ0.out, HQ1.out, HQ2.out, HQ3.out, hq]; rfl
    clear hq
    go_wp2
    go_ret
    exact ⟨by rw [E.out]; rfl, hb⟩
  have HQ4 := hid hq
  clear hq
  go_wp2_with fail
  refine (bkIn c.retry 1 20 _).mono ?_
  rintro e wx ⟨rfl, rfl⟩
  cases hq : inR c.retry 1 20
  · have E : Hid (mayB c = false) := by rw [Hid, mayB, HQ0.out, HQ1.out, HQ2.out, HQ3.out, HQ4.out, hq]; rfl
    clear hq
    go_wp2
    go_ret
    exact ⟨by rw [E.out]; rfl, hb⟩
  have HQ5 := hid hq
  clear hq
  go_wp2_with fail
  refine (bkIn c.deadline 1 60 _).mono ?_
  rintro e wx ⟨rfl, rfl⟩
  cases hq : inR c.deadline 1 60
  · have E : Hid (mayB c = false) := by rw [Hid, mayB, HQ0.out, HQ1.out, HQ2.out, HQ3.out, HQ4.out, HQ5.out, hq]; rfl
    clear hq
    go_wp2
    go_ret
    exact ⟨by rw [E.out]; rfl, hb⟩
  have HQ6 := hid hq
  clear hq
  go_wp2_with fail
  refine (bkIn c.room 0 5000 _).mono ?_
  rintro e wx ⟨rfl, rfl⟩
  cases hq : inR c.room 0 5000
  · have E : Hid (mayB c = false) := by rw [Hid, mayB, HQ0.out, HQ1.out, HQ2.out, HQ3.out, HQ4.out, HQ5.out, HQ6.out, hq]; rfl
    clear hq
    go_wp2
    go_ret
    exact ⟨by rw [E.out]; rfl, hb⟩
  have HQ7 := hid hq
  clear hq
  go_wp2_with fail
  refine (bkIn c.disk 2000 40000 _).mono ?_
  rintro e wx ⟨rfl, rfl⟩
  cases hq : inR c.disk 2000 40000
  · have E : Hid (mayB c = false) := by rw [Hid, mayB, HQ0.out, HQ1.out, HQ2.out, HQ3.out, HQ4.out, HQ5.out, HQ6.out, HQ7.out, hq]; rfl
    clear hq
    go_wp2
    go_ret
    exact ⟨by rw [E.out]; rfl, hb⟩
  have E : Hid (mayB c = true) := by rw [Hid, mayB, HQ0.out, HQ1.out, HQ2.out, HQ3.out, HQ4.out, HQ5.out, HQ6.out, HQ7.out, hq]; rfl
  clear hq
  go_wp2
  go_ret
  exact ⟨by rw [E.out]; rfl, hb⟩
def askedB (c : CF) (j : JB) : Bool := inR j.queue 0 (c.queues - 1) && (inR j.prio 0 9 && (inR j.lo 1 j.hi && (inR j.hi 1 c.nodes && (inR j.work 1 1000 && (inR j.pin 0 9)))))
set_option maxRecDepth 10000 in
set_option maxHeartbeats 3200000 in
theorem bxAsked (c : CF) (j : JB) (w : World) (hc : 1 ≤ c.queues ∧ c.queues ≤ 3) : Calls Tryd.prog 37 #[.agg #[.int .i64 c.nodes, .int .i64 c.queues, .int .i64 c.quota, .int .i64 c.wave, .int .i64 c.lease, .int .i64 c.retry, .int .i64 c.deadline, .int .i64 c.room, .int .i64 c.disk], .agg #[.int .i64 j.queue, .int .i64 j.prio, .int .i64 j.lo, .int .i64 j.hi, .int .i64 j.work, .int .i64 j.pin, .int .i64 j.phase, .int .i64 j.inc, .int .i64 j.nodes, .int .i64 j.since, .int .i64 j.until_, .int .i64 j.epoch]] w fun e w' => e = .returned (.bool (askedB c j)) ∧ Below w.heap.size w w' := by
  have hb := (((St.start w).alloc (.cells #[.int .i64 c.nodes, .int .i64 c.queues, .int .i64 c.quota, .int .i64 c.wave, .int .i64 c.lease, .int .i64 c.retry, .int .i64 c.deadline, .int .i64 c.room, .int .i64 c.disk] 23)).alloc (.cells #[.int .i64 j.queue, .int .i64 j.prio, .int .i64 j.lo, .int .i64 j.hi, .int .i64 j.work, .int .i64 j.pin, .int .i64 j.phase, .int .i64 j.inc, .int .i64 j.nodes, .int .i64 j.since, .int .i64 j.until_, .int .i64 j.epoch] 51)).fin
  obtain ⟨hq1, hq2⟩ := hc
  go_enter Tryd.func37, Tryd.ntmps37
  go_wp2_with fail
  refine (bkIn j.queue 0 (c.queues - 1) _).mono ?_
  rintro e wx ⟨rfl, rfl⟩
  cases hq : inR j.queue 0 (c.queues - 1)
  · have E : Hid (askedB c j = false) := by rw [Hid, askedB, hq]; rfl
    clear hq
    go_wp2
    go_ret
    exact ⟨by rw [E.out]; rfl, hb⟩
  have HQ0 := hid hq
  clear hq
  go_wp2_with fail
  refine (bkIn j.prio 0 9 _).mono ?_
  rintro e wx ⟨rfl, rfl⟩
  cases hq : inR j.prio 0 9
  · have E : Hid (askedB c j = false) := by rw [Hid, askedB, HQ0.out, hq]; rfl
    clear hq
    go_wp2
    go_ret
    exact ⟨by rw [E.out]; rfl, hb⟩
  have HQ1 := hid hq
  clear hq
  go_wp2_with fail
  refine (bkIn j.lo 1 j.hi _).mono ?_
  rintro e wx ⟨rfl, rfl⟩
  cases hq : inR j.lo 1 j.hi
  · have E : Hid (askedB c j = false) := by rw [Hid, askedB, HQ0.out, HQ1.out, hq]; rfl
    clear hq
    go_wp2
    go_ret
    exact ⟨by rw [E.out]; rfl, hb⟩
  have HQ2 := hid hq
  clear hq
  go_wp2_with fail
  refine (bkIn j.hi 1 c.nodes _).mono ?_
  rintro e wx ⟨rfl, rfl⟩
  cases hq : inR j.hi 1 c.nodes
  · have E : Hid (askedB c j = false) := by rw [Hid, askedB, HQ0.out, HQ1.out, HQ2.out, hq]; rfl
    clear hq
    go_wp2
    go_ret
    exact ⟨by rw [E.out]; rfl, hb⟩
  have HQ3 := hid hq
  clear hq
  go_wp2_with fail
  refine (bkIn j.work 1 1000 _).mono ?_
  rintro e wx ⟨rfl, rfl⟩
  cases hq : inR j.work 1 1000
  · have E : Hid (askedB c j = false) := by rw [Hid, askedB, HQ0.out, HQ1.out, HQ2.out, HQ3.out, hq]; rfl
    clear hq
    go_wp2
    go_ret
    exact ⟨by rw [E.out]; rfl, hb⟩
  have HQ4 := hid hq
  clear hq
  go_wp2_with fail
  refine (bkIn j.pin 0 9 _).mono ?_
  rintro e wx ⟨rfl, rfl⟩
  cases hq : inR j.pin 0 9
  · have E : Hid (askedB c j = false) := by rw [Hid, askedB, HQ0.out, HQ1.out, HQ2.out, HQ3.out, HQ4.out, hq]; rfl
    clear hq
    go_wp2
    go_ret
    exact ⟨by rw [E.out]; rfl, hb⟩
  have E : Hid (askedB c j = true) := by rw [Hid, askedB, HQ0.out, HQ1.out, HQ2.out, HQ3.out, HQ4.out, hq]; rfl
  clear hq
  go_wp2
  go_ret
  exact ⟨by rw [E.out]; rfl, hb⟩
theorem forallFin64 {P : Fin 64 → Prop} (h : ∀ m, P m) (m : Fin 64) : P m := h m
def onesN (n : Nat) : Int := (n % 2 + n / 2 % 2 + n / 4 % 2 + n / 8 % 2 + n / 16 % 2 + n / 32 % 2 : Nat)
set_option maxRecDepth 10000 in
theorem bxOnes (n : Nat) (w : World) (h : n < 64) : Calls Tryd.prog 48 #[.int .u64 n] w fun e w' => e = .returned (.int .i64 (onesN n)) ∧ w' = w := by
  obtain ⟨m, rfl⟩ : ∃ m : Fin 64, n = m.val := ⟨⟨n, h⟩, rfl⟩
  clear h
  go_enter Tryd.func48, Tryd.ntmps48
  go_wp2
  go_ret
  refine ⟨?_, rfl⟩
  show Ending.returned (Value.int .i64 _) = Ending.returned (Value.int .i64 _)
  refine congrArg (fun z => Ending.returned (Value.int .i64 z)) ?_
  revert m
  decide +kernel
end Go.Proofs.YtjfbmgndekfglaaDoor
