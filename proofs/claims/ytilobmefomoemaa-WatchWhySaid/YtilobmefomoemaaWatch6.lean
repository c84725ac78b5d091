/- Watch: whether a function holds of an agent. -/
import Derived.Test.YtilobmefomoemaaWatch5
namespace Go.Proofs.Ytilobmefomoemaa
set_option linter.unusedVariables false
set_option linter.unusedSimpArgs false
open Go.RowKit
set_option maxRecDepth 10000 in
set_option maxHeartbeats 3200000 in
theorem wtIndexStray (c : CF) (s : STA) (la : Option Addr) (ln lc : Nat) (sv : Value) (L : List AG) (w : World) (hn : L.length = ln) (hm : ln ≤ 1000000) (hA : AtG eAG w la L) (hs : s.At w) :
    Calls Try.prog 59 #[.slice la ln lc, .func (.func 36) #[.agg #[.int .i64 c.nodes, .int .i64 c.queues, .int .i64 c.quota, .int .i64 c.wave, .int .i64 c.lease, .int .i64 c.retry, .int .i64 c.deadline, .int .i64 c.room, .int .i64 c.disk, .slice s.na s.nn s.nc, .slice s.ja s.jn s.jc, .int .i64 s.goal, .int .i64 s.prior, .int .i64 s.mode, .int .i64 s.term, .slice la ln lc, sv]] #[]] w fun e w' => ∃ r : Int, e = .returned (.int .i64 r) ∧ decide (0 ≤ r) = L.any (strayA s) ∧ Below w.heap.size w w' := by
  have HN := hid hn
  have HA := hid hA
  have HS := hid hs
  have S0 := St.start w
  clear hn hA hs
  go_enter Try.func59, Try.ntmps59
  go_wp2_with fail
  go_loopw [8] (fun i wr => ∃ k : Nat, k ≤ ln ∧ i = .int .i64 k ∧ (L.take k).any (strayA s) = false ∧ St w wr []) (fun i _ => ln - (intOf i).toNat)
  case atStart => exact ⟨0, Nat.zero_le _, rfl, by simp, S0⟩
  case round =>
    obtain ⟨k, hk, rfl, hno, Sk⟩ := hrel
    have HNo := hid hno
    clear S0 hno
    by_cases hlt : k < ln
    case neg =>
      have g0 : decide ((k : Int) < (ln : Int)) = false := decide_eq_false (by omega)
      have g0n : decide (k < ln) = false := decide_eq_false (by omega)
      have E : Hid (L.any (strayA s) = false) := by
        have := HNo.out
        rw [List.take_of_length_le (by rw [HN.out]; omega)] at this
        exact this
      clear hlt
      go_wp2
      go_ret
      exact ⟨_, rfl, by rw [E.out]; rfl, Sk.fin⟩
    have g0 : decide ((k : Int) < (ln : Int)) = true := decide_eq_true (by omega)
    have g0n : decide (k < ln) = true := decide_eq_true (by omega)
    have hkl : k < L.length := by rw [HN.out]; exact hlt
    have hAk : AtG eAG wr la L := HA.out.all eAGok Sk.fin
    have i0 := fun wx => idxAG la ln lc (fun h => hAk.ok (by omega)) k hlt wx
    obtain ⟨y0, y1, y2, y3, y4, y5, y6, y7, y8, y9⟩ := hAk.agAt hkl
    have HTk : Hid ((L.take (k + 1)).any (strayA s) = ((L.take k).any (strayA s) || (strayA s) L[k])) := by rw [Hid, List.take_add_one, List.getElem?_eq_getElem hkl]; simp only [Option.toList_some, List.any_append, List.any_cons, List.any_nil, Bool.or_false]
    have HM : Hid ((strayA s) L[k] = true → L.any (strayA s) = true) := fun h => List.any_eq_true.2 ⟨_, List.getElem_mem hkl, h⟩
    generalize L[k] = x at *
    generalize adr la (k * 10) = A at *
    clear hAk
    go_wp2_with fail
    refine (wtStray c s la ln lc sv x wr (HS.out.all Sk.fin)).mono ?_
    rintro e w3 ⟨rfl, hb3⟩
    have S3 := Sk.grow hb3
    clear hb3 Sk y0 y1 y2 y3 y4 y5 y6 y7 y8 y9
    cases hp : (strayA s) x
    · have E : Hid ((L.take (k + 1)).any (strayA s) = false) := by rw [Hid, HTk.out, HNo.out, hp]; rfl
      clear hp HTk HM HNo
      go_wp2
      go_roundw
      case rel => exact ⟨k + 1, by omega, by go_num, E.out, S3⟩
      case measure => simp [intOf]; omega
    · have E : Hid (L.any (strayA s) = true) := HM.out hp
      clear hp HTk HM HNo
      go_wp2
      go_ret
      exact ⟨_, rfl, by rw [E.out]; exact decide_eq_true (by omega), S3.fin⟩
set_option maxRecDepth 10000 in
set_option maxHeartbeats 3200000 in
theorem wtContainsStray (c : CF) (s : STA) (la : Option Addr) (ln lc : Nat) (sv : Value) (L : List AG) (w : World) (hn : L.length = ln) (hm : ln ≤ 1000000) (hA : AtG eAG w la L) (hs : s.At w) :
    Calls Try.prog 35 #[.slice la ln lc, .func (.func 36) #[.agg #[.int .i64 c.nodes, .int .i64 c.queues, .int .i64 c.quota, .int .i64 c.wave, .int .i64 c.lease, .int .i64 c.retry, .int .i64 c.deadline, .int .i64 c.room, .int .i64 c.disk, .slice s.na s.nn s.nc, .slice s.ja s.jn s.jc, .int .i64 s.goal, .int .i64 s.prior, .int .i64 s.mode, .int .i64 s.term, .slice la ln lc, sv]] #[]] w fun e w' => e = .returned (.bool (L.any (strayA s))) ∧ Below w.heap.size w w' := by
  have HI := wtIndexStray c s la ln lc sv L w hn hm hA hs
  go_enter Try.func35, Try.ntmps35
  go_wp2_with fail
  refine HI.mono ?_
  rintro e w1 ⟨r, rfl, hr, hb⟩
  go_wp2
  go_ret
  exact ⟨by rw [← hr]; rfl, hb⟩
set_option maxRecDepth 10000 in
set_option maxHeartbeats 3200000 in
theorem wtFaultStray (c : CF) (s : STA) (la : Option Addr) (ln lc : Nat) (sv : Value) (L : List AG) (w : World) (hn : L.length = ln) (hm : ln ≤ 1000000) (hA : AtG eAG w la L) (hs : s.At w) :
    Calls Try.prog 34 #[.agg #[.int .i64 c.nodes, .int .i64 c.queues, .int .i64 c.quota, .int .i64 c.wave, .int .i64 c.lease, .int .i64 c.retry, .int .i64 c.deadline, .int .i64 c.room, .int .i64 c.disk, .slice s.na s.nn s.nc, .slice s.ja s.jn s.jc, .int .i64 s.goal, .int .i64 s.prior, .int .i64 s.mode, .int .i64 s.term, .slice la ln lc, sv]] w fun e w' => e = .returned (.bool (L.any (strayA s))) ∧ Below w.heap.size w w' := by
  have S1 : St w _ [cellsT w.heap.size 77 (#[.int .i64 c.nodes, .int .i64 c.queues, .int .i64 c.quota, .int .i64 c.wave, .int .i64 c.lease, .int .i64 c.retry, .int .i64 c.deadline, .int .i64 c.room, .int .i64 c.disk, .slice s.na s.nn s.nc, .slice s.ja s.jn s.jc, .int .i64 s.goal, .int .i64 s.prior, .int .i64 s.mode, .int .i64 s.term, .slice la ln lc, sv] : Array Value).toList] := (St.start w).newAt 77 #[.int .i64 c.nodes, .int .i64 c.queues, .int .i64 c.quota, .int .i64 c.wave, .int .i64 c.lease, .int .i64 c.retry, .int .i64 c.deadline, .int .i64 c.room, .int .i64 c.disk, .slice s.na s.nn s.nc, .slice s.ja s.jn s.jc, .int .i64 s.goal, .int .i64 s.prior, .int .i64 s.mode, .int .i64 s.term, .slice la ln lc, sv] w.heap.size rfl
  have HA := hid hA
  have HS := hid hs
  have HN := hid hn
  clear hA hs hn
  go_enter Try.func34, Try.ntmps34
  go_wp2_with fail
  generalize w.heap.size = g1 at *
  generalize w.alloc _ = w1 at *
  refine (wtContainsStray c s la ln lc sv L w1 HN.out hm (HA.out.all eAGok S1.fin) (HS.out.all S1.fin)).mono ?_
  rintro e w2 ⟨rfl, hb2⟩
  have S2 := S1.grow hb2
  go_wp2
  go_ret
  exact ⟨rfl, S2.fin⟩
set_option maxRecDepth 10000 in
set_option maxHeartbeats 3200000 in
theorem wtIndexWrong (c : CF) (s : STA) (la : Option Addr) (ln lc : Nat) (sv : Value) (L : List AG) (w : World) (hn : L.length = ln) (hm : ln ≤ 1000000) (hA : AtG eAG w la L) (hs : s.At w) :
    Calls Try.prog 59 #[.slice la ln lc, .func (.func 39) #[.agg #[.int .i64 c.nodes, .int .i64 c.queues, .int .i64 c.quota, .int .i64 c.wave, .int .i64 c.lease, .int .i64 c.retry, .int .i64 c.deadline, .int .i64 c.room, .int .i64 c.disk, .slice s.na s.nn s.nc, .slice s.ja s.jn s.jc, .int .i64 s.goal, .int .i64 s.prior, .int .i64 s.mode, .int .i64 s.term, .slice la ln lc, sv]] #[]] w fun e w' => ∃ r : Int, e = .returned (.int .i64 r) ∧ decide (0 ≤ r) = L.any (wrongA s) ∧ Below w.heap.size w w' := by
  have HN := hid hn
  have HA := hid hA
  have HS := hid hs
  have S0 := St.start w
  clear hn hA hs
  go_enter Try.func59, Try.ntmps59
  go_wp2_with fail
  go_loopw [8] (fun i wr => ∃ k : Nat, k ≤ ln ∧ i = .int .i64 k ∧ (L.take k).any (wrongA s) = false ∧ St w wr []) (fun i _ => ln - (intOf i).toNat)
  case atStart => exact ⟨0, Nat.zero_le _, rfl, by simp, S0⟩
  case round =>
    obtain ⟨k, hk, rfl, hno, Sk⟩ := hrel
    have HNo := hid hno
    clear S0 hno
    by_cases hlt : k < ln
    case neg =>
      have g0 : decide ((k : Int) < (ln : Int)) = false := decide_eq_false (by omega)
      have g0n : decide (k < ln) = false := decide_eq_false (by omega)
      have E : Hid (L.any (wrongA s) = false) := by
        have := HNo.out
        rw [List.take_of_length_le (by rw [HN.out]; omega)] at this
        exact this
      clear hlt
      go_wp2
      go_ret
      exact ⟨_, rfl, by rw [E.out]; rfl, Sk.fin⟩
    have g0 : decide ((k : Int) < (ln : Int)) = true := decide_eq_true (by omega)
    have g0n : decide (k < ln) = true := decide_eq_true (by omega)
    have hkl : k < L.length := by rw [HN.out]; exact hlt
    have hAk : AtG eAG wr la L := HA.out.all eAGok Sk.fin
    have i0 := fun wx => idxAG la ln lc (fun h => hAk.ok (by omega)) k hlt wx
    obtain ⟨y0, y1, y2, y3, y4, y5, y6, y7, y8, y9⟩ := hAk.agAt hkl
    have HTk : Hid ((L.take (k + 1)).any (wrongA s) = ((L.take k).any (wrongA s) || (wrongA s) L[k])) := by rw [Hid, List.take_add_one, List.getElem?_eq_getElem hkl]; simp only [Option.toList_some, List.any_append, List.any_cons, List.any_nil, Bool.or_false]
    have HM : Hid ((wrongA s) L[k] = true → L.any (wrongA s) = true) := fun h => List.any_eq_true.2 ⟨_, List.getElem_mem hkl, h⟩
    generalize L[k] = x at *
    generalize adr la (k * 10) = A at *
    clear hAk
    go_wp2_with fail
    refine (wtWrong c s la ln lc sv x wr (HS.out.all Sk.fin)).mono ?_
    rintro e w3 ⟨rfl, hb3⟩
    have S3 := Sk.grow hb3
    clear hb3 Sk y0 y1 y2 y3 y4 y5 y6 y7 y8 y9
    cases hp : (wrongA s) x
    · have E : Hid ((L.take (k + 1)).any (wrongA s) = false) := by rw [Hid, HTk.out, HNo.out, hp]; rfl
      clear hp HTk HM HNo
      go_wp2
      go_roundw
      case rel => exact ⟨k + 1, by omega, by go_num, E.out, S3⟩
      case measure => simp [intOf]; omega
    · have E : Hid (L.any (wrongA s) = true) := HM.out hp
      clear hp HTk HM HNo
      go_wp2
      go_ret
      exact ⟨_, rfl, by rw [E.out]; exact decide_eq_true (by omega), S3.fin⟩
set_option maxRecDepth 10000 in
set_option maxHeartbeats 3200000 in
theorem wtContainsWrong (c : CF) (s : STA) (la : Option Addr) (ln lc : Nat) (sv : Value) (L : List AG) (w : World) (hn : L.length = ln) (hm : ln ≤ 1000000) (hA : AtG eAG w la L) (hs : s.At w) :
    Calls Try.prog 35 #[.slice la ln lc, .func (.func 39) #[.agg #[.int .i64 c.nodes, .int .i64 c.queues, .int .i64 c.quota, .int .i64 c.wave, .int .i64 c.lease, .int .i64 c.retry, .int .i64 c.deadline, .int .i64 c.room, .int .i64 c.disk, .slice s.na s.nn s.nc, .slice s.ja s.jn s.jc, .int .i64 s.goal, .int .i64 s.prior, .int .i64 s.mode, .int .i64 s.term, .slice la ln lc, sv]] #[]] w fun e w' => e = .returned (.bool (L.any (wrongA s))) ∧ Below w.heap.size w w' := by
  have HI := wtIndexWrong c s la ln lc sv L w hn hm hA hs
  go_enter Try.func35, Try.ntmps35
  go_wp2_with fail
  refine HI.mono ?_
  rintro e w1 ⟨r, rfl, hr, hb⟩
  go_wp2
  go_ret
  exact ⟨by rw [← hr]; rfl, hb⟩
set_option maxRecDepth 10000 in
set_option maxHeartbeats 3200000 in
theorem wtFaultWrong (c : CF) (s : STA) (la : Option Addr) (ln lc : Nat) (sv : Value) (L : List AG) (w : World) (hn : L.length = ln) (hm : ln ≤ 1000000) (hA : AtG eAG w la L) (hs : s.At w) :
    Calls Try.prog 38 #[.agg #[.int .i64 c.nodes, .int .i64 c.queues, .int .i64 c.quota, .int .i64 c.wave, .int .i64 c.lease, .int .i64 c.retry, .int .i64 c.deadline, .int .i64 c.room, .int .i64 c.disk, .slice s.na s.nn s.nc, .slice s.ja s.jn s.jc, .int .i64 s.goal, .int .i64 s.prior, .int .i64 s.mode, .int .i64 s.term, .slice la ln lc, sv]] w fun e w' => e = .returned (.bool (L.any (wrongA s))) ∧ Below w.heap.size w w' := by
  have S1 : St w _ [cellsT w.heap.size 77 (#[.int .i64 c.nodes, .int .i64 c.queues, .int .i64 c.quota, .int .i64 c.wave, .int .i64 c.lease, .int .i64 c.retry, .int .i64 c.deadline, .int .i64 c.room, .int .i64 c.disk, .slice s.na s.nn s.nc, .slice s.ja s.jn s.jc, .int .i64 s.goal, .int .i64 s.prior, .int .i64 s.mode, .int .i64 s.term, .slice la ln lc, sv] : Array Value).toList] := (St.start w).newAt 77 #[.int .i64 c.nodes, .int .i64 c.queues, .int .i64 c.quota, .int .i64 c.wave, .int .i64 c.lease, .int .i64 c.retry, .int .i64 c.deadline, .int .i64 c.room, .int .i64 c.disk, .slice s.na s.nn s.nc, .slice s.ja s.jn s.jc, .int .i64 s.goal, .int .i64 s.prior, .int .i64 s.mode, .int .i64 s.term, .slice la ln lc, sv] w.heap.size rfl
  have HA := hid hA
  have HS := hid hs
  have HN := hid hn
  clear hA hs hn
  go_enter Try.func38, Try.ntmps38
  go_wp2_with fail
  generalize w.heap.size = g1 at *
  generalize w.alloc _ = w1 at *
  refine (wtContainsWrong c s la ln lc sv L w1 HN.out hm (HA.out.all eAGok S1.fin) (HS.out.all S1.fin)).mono ?_
  rintro e w2 ⟨rfl, hb2⟩
  have S2 := S1.grow hb2
  go_wp2
  go_ret
  exact ⟨rfl, S2.fin⟩
end Go.Proofs.Ytilobmefomoemaa
