/- Watch: mixed versions; a lost checkpoint. -/
import Derived.Test.YtilobmefomoemaaWatch6
namespace Go.Proofs.Ytilobmefomoemaa
set_option linter.unusedVariables false
set_option linter.unusedSimpArgs false
open Go.RowKit
def mixA (x y : AG) : Bool := (hasA x && hasA y) && (decide ([x.job, x.inc] = [y.job, y.inc]) && (x.version != y.version))
def mixL (L : List AG) : Bool := L.any fun x => L.any fun y => mixA x y
set_option maxRecDepth 10000 in
set_option maxHeartbeats 12800000 in
theorem wtMixed (c : CF) (s : STA) (la : Option Addr) (ln lc : Nat) (sv : Value) (L : List AG) (w : World) (hn : L.length = ln) (hm : ln ≤ 1000000) (hA : AtG eAG w la L) :
    Calls Try.prog 40 #[.agg #[.int .i64 c.nodes, .int .i64 c.queues, .int .i64 c.quota, .int .i64 c.wave, .int .i64 c.lease, .int .i64 c.retry, .int .i64 c.deadline, .int .i64 c.room, .int .i64 c.disk, .slice s.na s.nn s.nc, .slice s.ja s.jn s.jc, .int .i64 s.goal, .int .i64 s.prior, .int .i64 s.mode, .int .i64 s.term, .slice la ln lc, sv]] w fun e w' => e = .returned (.bool (mixL L)) ∧ Below w.heap.size w w' := by
  have S1 : St w _ [cellsT w.heap.size 77 (#[.int .i64 c.nodes, .int .i64 c.queues, .int .i64 c.quota, .int .i64 c.wave, .int .i64 c.lease, .int .i64 c.retry, .int .i64 c.deadline, .int .i64 c.room, .int .i64 c.disk, .slice s.na s.nn s.nc, .slice s.ja s.jn s.jc, .int .i64 s.goal, .int .i64 s.prior, .int .i64 s.mode, .int .i64 s.term, .slice la ln lc, sv] : Array Value).toList] := (St.start w).newAt 77 #[.int .i64 c.nodes, .int .i64 c.queues, .int .i64 c.quota, .int .i64 c.wave, .int .i64 c.lease, .int .i64 c.retry, .int .i64 c.deadline, .int .i64 c.room, .int .i64 c.disk, .slice s.na s.nn s.nc, .slice s.ja s.jn s.jc, .int .i64 s.goal, .int .i64 s.prior, .int .i64 s.mode, .int .i64 s.term, .slice la ln lc, sv] w.heap.size rfl
  have HA := hid hA
  have HN := hid hn
  clear hA hn
  go_enter Try.func40, Try.ntmps40
  go_wp2_with fail
  generalize w.heap.size = g1 at *
  generalize w.alloc _ = w1 at *
  go_loopw [10] (fun i wr => ∃ k : Nat, k ≤ ln ∧ i = .int .i64 k ∧ (L.take k).any (fun x => L.any fun y => mixA x y) = false ∧ St w wr [cellsT g1 77 (#[.int .i64 c.nodes, .int .i64 c.queues, .int .i64 c.quota, .int .i64 c.wave, .int .i64 c.lease, .int .i64 c.retry, .int .i64 c.deadline, .int .i64 c.room, .int .i64 c.disk, .slice s.na s.nn s.nc, .slice s.ja s.jn s.jc, .int .i64 s.goal, .int .i64 s.prior, .int .i64 s.mode, .int .i64 s.term, .slice la ln lc, sv] : Array Value).toList]) (fun i _ => ln - (intOf i).toNat)
  case atStart => exact ⟨0, Nat.zero_le _, rfl, by simp, S1⟩
  case round =>
    obtain ⟨k, hk, rfl, hno, Sk⟩ := hrel
    have HNo := hid hno
    clear S1 hno
    by_cases hlt : k < ln
    case neg =>
      have g0 : decide ((k : Int) < (ln : Int)) = false := decide_eq_false (by omega)
      have g0n : decide (k < ln) = false := decide_eq_false (by omega)
      have E : Hid (mixL L = false) := by
        have := HNo.out
        rw [List.take_of_length_le (by rw [HN.out]; omega)] at this
        exact this
      clear hlt
      go_wp2
      go_ret
      exact ⟨by rw [E.out]; rfl, Sk.fin⟩
    have g0 : decide ((k : Int) < (ln : Int)) = true := decide_eq_true (by omega)
    have g0n : decide (k < ln) = true := decide_eq_true (by omega)
    have hkl : k < L.length := by rw [HN.out]; exact hlt
    have hAk : AtG eAG wr la L := HA.out.all eAGok Sk.fin
    have i0 := fun wx => idxAG la ln lc (fun h => hAk.ok (by omega)) k hlt wx
    obtain ⟨y0, y1, y2, y3, y4, y5, y6, y7, y8, y9⟩ := hAk.agAt hkl
    have v15 := Sk.cell 0 rfl 15 rfl
    have HTk : Hid ((L.take (k + 1)).any (fun x => L.any fun y => mixA x y) = ((L.take k).any (fun x => L.any fun y => mixA x y) || L.any fun y => mixA L[k] y)) := by rw [Hid, List.take_add_one, List.getElem?_eq_getElem hkl]; simp only [Option.toList_some, List.any_append, List.any_cons, List.any_nil, Bool.or_false]
    have HM : Hid ((L.any fun y => mixA L[k] y) = true → mixL L = true) := fun h => List.any_eq_true.2 ⟨_, List.getElem_mem hkl, h⟩
    generalize L[k] = x at *
    generalize adr la (k * 10) = A at *
    clear hAk
    have S2 : St w (wr.alloc (.cells #[.bool x.up, .int .i64 x.term, .int .i64 x.gen, .int .i64 x.mode, .int .i64 x.job, .int .i64 x.inc, .int .i64 x.version, .int .i64 x.lease, .int .i64 x.worked, .int .i64 x.to_] 31)) [cellsT wr.heap.size 31 x.cs, cellsT g1 77 (#[.int .i64 c.nodes, .int .i64 c.queues, .int .i64 c.quota, .int .i64 c.wave, .int .i64 c.lease, .int .i64 c.retry, .int .i64 c.deadline, .int .i64 c.room, .int .i64 c.disk, .slice s.na s.nn s.nc, .slice s.ja s.jn s.jc, .int .i64 s.goal, .int .i64 s.prior, .int .i64 s.mode, .int .i64 s.term, .slice la ln lc, sv] : Array Value).toList] := (newAtG Sk 31 #[.bool x.up, .int .i64 x.term, .int .i64 x.gen, .int .i64 x.mode, .int .i64 x.job, .int .i64 x.inc, .int .i64 x.version, .int .i64 x.lease, .int .i64 x.worked, .int .i64 x.to_] _ rfl).rot
    have v15b := S2.cell 1 rfl 15 rfl
    go_wp2_with fail
    generalize wr.heap.size = g4 at *
    generalize wr.alloc _ = w2 at *
    clear Sk y0 y1 y2 y3 y4 y5 y6 y7 y8 y9 v15 v15b i0
    go_loopw [17] (fun i wq => ∃ q : Nat, q ≤ ln ∧ i = .int .i64 q ∧ (L.take q).any (mixA x) = false ∧ St w wq [cellsT g4 31 x.cs, cellsT g1 77 (#[.int .i64 c.nodes, .int .i64 c.queues, .int .i64 c.quota, .int .i64 c.wave, .int .i64 c.lease, .int .i64 c.retry, .int .i64 c.deadline, .int .i64 c.room, .int .i64 c.disk, .slice s.na s.nn s.nc, .slice s.ja s.jn s.jc, .int .i64 s.goal, .int .i64 s.prior, .int .i64 s.mode, .int .i64 s.term, .slice la ln lc, sv] : Array Value).toList]) (fun i _ => ln - (intOf i).toNat)
    case atStart => exact ⟨0, Nat.zero_le _, rfl, by simp, S2⟩
    case round =>
      obtain ⟨q, hq, rfl, hno, Sq⟩ := hrel
      have HNq := hid hno
      clear S2 hno
      by_cases hlq : q < ln
      case neg =>
        have q0 : decide ((q : Int) < (ln : Int)) = false := decide_eq_false (by omega)
        have q0n : decide (q < ln) = false := decide_eq_false (by omega)
        have E : Hid ((L.take (k + 1)).any (fun x => L.any fun y => mixA x y) = false) := by
          have := HNq.out
          rw [List.take_of_length_le (by rw [HN.out]; omega)] at this
          rw [Hid, HTk.out, HNo.out]
          exact this
        clear hlq
        go_wp2
        go_roundw
        case rel => exact ⟨k + 1, by omega, by go_num, E.out, Sq.tail⟩
        case measure => simp [intOf]; omega
      have q0 : decide ((q : Int) < (ln : Int)) = true := decide_eq_true (by omega)
      have q0n : decide (q < ln) = true := decide_eq_true (by omega)
      have hql : q < L.length := by rw [HN.out]; exact hlq
      have hAq : AtG eAG wr la L := HA.out.all eAGok Sq.fin
      have i1 := fun wx => idxAG la ln lc (fun h => hAq.ok (by omega)) q hlq wx
      obtain ⟨y0, y1, y2, y3, y4, y5, y6, y7, y8, y9⟩ := hAq.agAt hql
      have HTq : Hid ((L.take (q + 1)).any (mixA x) = ((L.take q).any (mixA x) || mixA x L[q])) := by rw [Hid, List.take_add_one, List.getElem?_eq_getElem hql]; simp only [Option.toList_some, List.any_append, List.any_cons, List.any_nil, Bool.or_false]
      have HMq : Hid (mixA x L[q] = true → mixL L = true) := fun h => HM.out (List.any_eq_true.2 ⟨_, List.getElem_mem hql, h⟩)
      generalize L[q] = y at *
      generalize adr la (q * 10) = A2 at *
      clear hAq
      have S2 : St w (wr.alloc (.cells #[.bool y.up, .int .i64 y.term, .int .i64 y.gen, .int .i64 y.mode, .int .i64 y.job, .int .i64 y.inc, .int .i64 y.version, .int .i64 y.lease, .int .i64 y.worked, .int .i64 y.to_] 31)) [cellsT wr.heap.size 31 y.cs, cellsT g4 31 x.cs, cellsT g1 77 (#[.int .i64 c.nodes, .int .i64 c.queues, .int .i64 c.quota, .int .i64 c.wave, .int .i64 c.lease, .int .i64 c.retry, .int .i64 c.deadline, .int .i64 c.room, .int .i64 c.disk, .slice s.na s.nn s.nc, .slice s.ja s.jn s.jc, .int .i64 s.goal, .int .i64 s.prior, .int .i64 s.mode, .int .i64 s.term, .slice la ln lc, sv] : Array Value).toList] := (newAtG Sq 31 #[.bool y.up, .int .i64 y.term, .int .i64 y.gen, .int .i64 y.mode, .int .i64 y.job, .int .i64 y.inc, .int .i64 y.version, .int .i64 y.lease, .int .i64 y.worked, .int .i64 y.to_] _ rfl).rot
      cases hx : hasA x
      · have HX := hid hx
        have E : Hid ((L.take (q + 1)).any (mixA x) = false) := by rw [Hid, HTq.out, HNq.out, mixA, hx]; rfl
        clear hx HTq HMq HM HTk HNo HNq
        go_wp2_with fail
        generalize wr.heap.size = g6 at *
        generalize wr.alloc _ = w2 at *
        clear Sq y0 y1 y2 y3 y4 y5 y6 y7 y8 y9 i1
        have keep : ∀ {w' : World} {l : List Thing}, St w w' (cellsT g6 31 y.cs :: cellsT g4 31 x.cs :: l) → ((w'.cell? ⟨g4, 0, none⟩ = some (.bool x.up) ∧ w'.cell? ⟨g4, 1, none⟩ = some (.int .i64 x.term) ∧ w'.cell? ⟨g4, 2, none⟩ = some (.int .i64 x.gen) ∧ w'.cell? ⟨g4, 3, none⟩ = some (.int .i64 x.mode) ∧ w'.cell? ⟨g4, 4, none⟩ = some (.int .i64 x.job) ∧ w'.cell? ⟨g4, 5, none⟩ = some (.int .i64 x.inc) ∧ w'.cell? ⟨g4, 6, none⟩ = some (.int .i64 x.version) ∧ w'.cell? ⟨g4, 7, none⟩ = some (.int .i64 x.lease) ∧ w'.cell? ⟨g4, 8, none⟩ = some (.int .i64 x.worked) ∧ w'.cell? ⟨g4, 9, none⟩ = some (.int .i64 x.to_)) ∧ (w'.cell? ⟨g6, 0, none⟩ = some (.bool y.up) ∧ w'.cell? ⟨g6, 1, none⟩ = some (.int .i64 y.term) ∧ w'.cell? ⟨g6, 2, none⟩ = some (.int .i64 y.gen) ∧ w'.cell? ⟨g6, 3, none⟩ = some (.int .i64 y.mode) ∧ w'.cell? ⟨g6, 4, none⟩ = some (.int .i64 y.job) ∧ w'.cell? ⟨g6, 5, none⟩ = some (.int .i64 y.inc) ∧ w'.cell? ⟨g6, 6, none⟩ = some (.int .i64 y.version) ∧ w'.cell? ⟨g6, 7, none⟩ = some (.int .i64 y.lease) ∧ w'.cell? ⟨g6, 8, none⟩ = some (.int .i64 y.worked) ∧ w'.cell? ⟨g6, 9, none⟩ = some (.int .i64 y.to_))) := fun S => ⟨S.agK 1 rfl, S.agK 0 rfl⟩
        refine wp_region_held_drew (S := (fun w' => ((w'.cell? ⟨g4, 0, none⟩ = some (.bool x.up) ∧ w'.cell? ⟨g4, 1, none⟩ = some (.int .i64 x.term) ∧ w'.cell? ⟨g4, 2, none⟩ = some (.int .i64 x.gen) ∧ w'.cell? ⟨g4, 3, none⟩ = some (.int .i64 x.mode) ∧ w'.cell? ⟨g4, 4, none⟩ = some (.int .i64 x.job) ∧ w'.cell? ⟨g4, 5, none⟩ = some (.int .i64 x.inc) ∧ w'.cell? ⟨g4, 6, none⟩ = some (.int .i64 x.version) ∧ w'.cell? ⟨g4, 7, none⟩ = some (.int .i64 x.lease) ∧ w'.cell? ⟨g4, 8, none⟩ = some (.int .i64 x.worked) ∧ w'.cell? ⟨g4, 9, none⟩ = some (.int .i64 x.to_)) ∧ (w'.cell? ⟨g6, 0, none⟩ = some (.bool y.up) ∧ w'.cell? ⟨g6, 1, none⟩ = some (.int .i64 y.term) ∧ w'.cell? ⟨g6, 2, none⟩ = some (.int .i64 y.gen) ∧ w'.cell? ⟨g6, 3, none⟩ = some (.int .i64 y.mode) ∧ w'.cell? ⟨g6, 4, none⟩ = some (.int .i64 y.job) ∧ w'.cell? ⟨g6, 5, none⟩ = some (.int .i64 y.inc) ∧ w'.cell? ⟨g6, 6, none⟩ = some (.int .i64 y.version) ∧ w'.cell? ⟨g6, 7, none⟩ = some (.int .i64 y.lease) ∧ w'.cell? ⟨g6, 8, none⟩ = some (.int .i64 y.worked) ∧ w'.cell? ⟨g6, 9, none⟩ = some (.int .i64 y.to_))))) (by kernel_rfl) (by exact keep S2.drew) (fun hHeld => ?_)
        change wpAnyH _ _ _ _ _ 20 (Array.replicate 20 false) _ _
        refine wpAnyH_take (i := 0) (v := ?v1) (ops_at rfl) (by kernel_rfl) (by kernel_rfl) (by kernel_rfl) (fun _ _ _ h => h) (Or.inl ⟨by rfl, ?hy1⟩) (by assumption) ?rest1
        case hy1 => intro w' hSw; (try dsimp only at hSw); go_simp; try with_reducible rfl
        try simp only [Act.put, List.setIfInBounds_toArray, List.set_cons_zero, List.set_cons_succ]
        refine wpAnyH_ready (rs := [1]) (by kernel_rfl) (by simp) ?_
        refine AllReadyH.cons (ops_at rfl) (fun K hK => ?_) AllReadyH.nil
        go_simp
        refine (wtHas x _).mono ?_
        rintro e w3 ⟨rfl, hb3⟩
        rw [HX.out]
        have S3 := S2.drew.grow hb3
        refine hK.out _ _ (by exact keep S3) (fun hHeld => ?_)
        clear hK K
        try simp only [Act.put, List.setIfInBounds_toArray, List.set_cons_zero, List.set_cons_succ]
        refine wpAnyH_take (i := 2) (v := ?v3) (ops_at rfl) (by kernel_rfl) (by kernel_rfl) (by kernel_rfl) (fun _ _ _ h => h) (Or.inl ⟨by rfl, ?hy3⟩) (by assumption) ?rest3
        case hy3 => intro w' hSw; (try dsimp only at hSw); go_simp; try with_reducible rfl
        try simp only [Act.put, List.setIfInBounds_toArray, List.set_cons_zero, List.set_cons_succ]
        refine wpAnyH_take (i := 3) (v := undef) (ops_at rfl) (by kernel_rfl) (by kernel_rfl) (by kernel_rfl) (fun _ _ _ h => h) (Or.inr ⟨by rfl, rfl⟩) (by assumption) ?rest4
        try simp only [Act.put, List.setIfInBounds_toArray, List.set_cons_zero, List.set_cons_succ]
        refine wpAnyH_take (i := 4) (v := undef) (ops_at rfl) (by kernel_rfl) (by kernel_rfl) (by kernel_rfl) (fun _ _ _ h => h) (Or.inr ⟨by rfl, rfl⟩) (by assumption) ?rest5
        try simp only [Act.put, List.setIfInBounds_toArray, List.set_cons_zero, List.set_cons_succ]
        refine wpAnyH_take (i := 5) (v := ?v6) (ops_at rfl) (by kernel_rfl) (by kernel_rfl) (by kernel_rfl) (fun _ _ _ h => h) (Or.inl ⟨by rfl, ?hy6⟩) (by assumption) ?rest6
        case hy6 => intro w' hSw; (try dsimp only at hSw); go_simp; try with_reducible rfl
        try simp only [Act.put, List.setIfInBounds_toArray, List.set_cons_zero, List.set_cons_succ]
        refine wpAnyH_take (i := 6) (v := ?v7) (ops_at rfl) (by kernel_rfl) (by kernel_rfl) (by kernel_rfl) (fun _ _ _ h => h) (Or.inl ⟨by rfl, ?hy7⟩) (by assumption) ?rest7
        case hy7 => intro w' hSw; (try dsimp only at hSw); go_simp; try with_reducible rfl
        try simp only [Act.put, List.setIfInBounds_toArray, List.set_cons_zero, List.set_cons_succ]
        refine wpAnyH_take (i := 7) (v := undef) (ops_at rfl) (by kernel_rfl) (by kernel_rfl) (by kernel_rfl) (fun _ _ _ h => h) (Or.inr ⟨by rfl, rfl⟩) (by assumption) ?rest8
        try simp only [Act.put, List.setIfInBounds_toArray, List.set_cons_zero, List.set_cons_succ]
        refine wpAnyH_take (i := 8) (v := undef) (ops_at rfl) (by kernel_rfl) (by kernel_rfl) (by kernel_rfl) (fun _ _ _ h => h) (Or.inr ⟨by rfl, rfl⟩) (by assumption) ?rest9
        try simp only [Act.put, List.setIfInBounds_toArray, List.set_cons_zero, List.set_cons_succ]
        refine wpAnyH_take (i := 9) (v := undef) (ops_at rfl) (by kernel_rfl) (by kernel_rfl) (by kernel_rfl) (fun _ _ _ h => h) (Or.inr ⟨by rfl, rfl⟩) (by assumption) ?rest10
        try simp only [Act.put, List.setIfInBounds_toArray, List.set_cons_zero, List.set_cons_succ]
        refine wpAnyH_take (i := 10) (v := undef) (ops_at rfl) (by kernel_rfl) (by kernel_rfl) (by kernel_rfl) (fun _ _ _ h => h) (Or.inr ⟨by rfl, rfl⟩) (by assumption) ?rest11
        try simp only [Act.put, List.setIfInBounds_toArray, List.set_cons_zero, List.set_cons_succ]
        refine wpAnyH_take (i := 11) (v := undef) (ops_at rfl) (by kernel_rfl) (by kernel_rfl) (by kernel_rfl) (fun _ _ _ h => h) (Or.inr ⟨by rfl, rfl⟩) (by assumption) ?rest12
        try simp only [Act.put, List.setIfInBounds_toArray, List.set_cons_zero, List.set_cons_succ]
        refine wpAnyH_take (i := 12) (v := ?v13) (ops_at rfl) (by kernel_rfl) (by kernel_rfl) (by kernel_rfl) (fun _ _ _ h => h) (Or.inl ⟨by rfl, ?hy13⟩) (by assumption) ?rest13
        case hy13 => intro w' hSw; (try dsimp only at hSw); go_simp; try with_reducible rfl
        try simp only [Act.put, List.setIfInBounds_toArray, List.set_cons_zero, List.set_cons_succ]
        refine wpAnyH_take (i := 13) (v := ?v14) (ops_at rfl) (by kernel_rfl) (by kernel_rfl) (by kernel_rfl) (fun _ _ _ h => h) (Or.inl ⟨by rfl, ?hy14⟩) (by assumption) ?rest14
        case hy14 => intro w' hSw; (try dsimp only at hSw); go_simp; try with_reducible rfl
        try simp only [Act.put, List.setIfInBounds_toArray, List.set_cons_zero, List.set_cons_succ]
        refine wpAnyH_take (i := 14) (v := undef) (ops_at rfl) (by kernel_rfl) (by kernel_rfl) (by kernel_rfl) (fun _ _ _ h => h) (Or.inr ⟨by rfl, rfl⟩) (by assumption) ?rest15
        try simp only [Act.put, List.setIfInBounds_toArray, List.set_cons_zero, List.set_cons_succ]
        refine wpAnyH_take (i := 15) (v := undef) (ops_at rfl) (by kernel_rfl) (by kernel_rfl) (by kernel_rfl) (fun _ _ _ h => h) (Or.inr ⟨by rfl, rfl⟩) (by assumption) ?rest16
        try simp only [Act.put, List.setIfInBounds_toArray, List.set_cons_zero, List.set_cons_succ]
        refine wpAnyH_take (i := 16) (v := undef) (ops_at rfl) (by kernel_rfl) (by kernel_rfl) (by kernel_rfl) (fun _ _ _ h => h) (Or.inr ⟨by rfl, rfl⟩) (by assumption) ?rest17
        try simp only [Act.put, List.setIfInBounds_toArray, List.set_cons_zero, List.set_cons_succ]
        refine wpAnyH_take (i := 17) (v := undef) (ops_at rfl) (by kernel_rfl) (by kernel_rfl) (by kernel_rfl) (fun _ _ _ h => h) (Or.inr ⟨by rfl, rfl⟩) (by assumption) ?rest18
        try simp only [Act.put, List.setIfInBounds_toArray, List.set_cons_zero, List.set_cons_succ]
        refine wpAnyH_take (i := 18) (v := undef) (ops_at rfl) (by kernel_rfl) (by kernel_rfl) (by kernel_rfl) (fun _ _ _ h => h) (Or.inr ⟨by rfl, rfl⟩) (by assumption) ?rest19
        try simp only [Act.put, List.setIfInBounds_toArray, List.set_cons_zero, List.set_cons_succ]
        refine wpAnyH_take (i := 19) (v := ?v20) (ops_at rfl) (by kernel_rfl) (by kernel_rfl) (by kernel_rfl) (fun _ _ _ h => h) (Or.inl ⟨by rfl, ?hy20⟩) (by assumption) ?rest20
        case hy20 => intro w' hSw; (try dsimp only at hSw); go_simp; try with_reducible rfl
        try simp only [Act.put, List.setIfInBounds_toArray, List.set_cons_zero, List.set_cons_succ]
        refine wpAnyH_done (by kernel_rfl) ?_ _
        go_wp2
        go_roundw
        case rel => exact ⟨q + 1, by omega, by go_num, E.out, S3.tail⟩
        case measure => simp [intOf]; omega
      cases hy : hasA y
      · have HX := hid hx
        have HY := hid hy
        have E : Hid ((L.take (q + 1)).any (mixA x) = false) := by rw [Hid, HTq.out, HNq.out, mixA, hx, hy]; rfl
        clear hx hy HTq HMq HM HTk HNo HNq
        go_wp2_with fail
        generalize wr.heap.size = g6 at *
        generalize wr.alloc _ = w2 at *
        clear Sq y0 y1 y2 y3 y4 y5 y6 y7 y8 y9 i1
        have keep : ∀ {w' : World} {l : List Thing}, St w w' (cellsT g6 31 y.cs :: cellsT g4 31 x.cs :: l) → ((w'.cell? ⟨g4, 0, none⟩ = some (.bool x.up) ∧ w'.cell? ⟨g4, 1, none⟩ = some (.int .i64 x.term) ∧ w'.cell? ⟨g4, 2, none⟩ = some (.int .i64 x.gen) ∧ w'.cell? ⟨g4, 3, none⟩ = some (.int .i64 x.mode) ∧ w'.cell? ⟨g4, 4, none⟩ = some (.int .i64 x.job) ∧ w'.cell? ⟨g4, 5, none⟩ = some (.int .i64 x.inc) ∧ w'.cell? ⟨g4, 6, none⟩ = some (.int .i64 x.version) ∧ w'.cell? ⟨g4, 7, none⟩ = some (.int .i64 x.lease) ∧ w'.cell? ⟨g4, 8, none⟩ = some (.int .i64 x.worked) ∧ w'.cell? ⟨g4, 9, none⟩ = some (.int .i64 x.to_)) ∧ (w'.cell? ⟨g6, 0, none⟩ = some (.bool y.up) ∧ w'.cell? ⟨g6, 1, none⟩ = some (.int .i64 y.term) ∧ w'.cell? ⟨g6, 2, none⟩ = some (.int .i64 y.gen) ∧ w'.cell? ⟨g6, 3, none⟩ = some (.int .i64 y.mode) ∧ w'.cell? ⟨g6, 4, none⟩ = some (.int .i64 y.job) ∧ w'.cell? ⟨g6, 5, none⟩ = some (.int .i64 y.inc) ∧ w'.cell? ⟨g6, 6, none⟩ = some (.int .i64 y.version) ∧ w'.cell? ⟨g6, 7, none⟩ = some (.int .i64 y.lease) ∧ w'.cell? ⟨g6, 8, none⟩ = some (.int .i64 y.worked) ∧ w'.cell? ⟨g6, 9, none⟩ = some (.int .i64 y.to_))) := fun S => ⟨S.agK 1 rfl, S.agK 0 rfl⟩
        refine wp_region_held_drew (S := (fun w' => ((w'.cell? ⟨g4, 0, none⟩ = some (.bool x.up) ∧ w'.cell? ⟨g4, 1, none⟩ = some (.int .i64 x.term) ∧ w'.cell? ⟨g4, 2, none⟩ = some (.int .i64 x.gen) ∧ w'.cell? ⟨g4, 3, none⟩ = some (.int .i64 x.mode) ∧ w'.cell? ⟨g4, 4, none⟩ = some (.int .i64 x.job) ∧ w'.cell? ⟨g4, 5, none⟩ = some (.int .i64 x.inc) ∧ w'.cell? ⟨g4, 6, none⟩ = some (.int .i64 x.version) ∧ w'.cell? ⟨g4, 7, none⟩ = some (.int .i64 x.lease) ∧ w'.cell? ⟨g4, 8, none⟩ = some (.int .i64 x.worked) ∧ w'.cell? ⟨g4, 9, none⟩ = some (.int .i64 x.to_)) ∧ (w'.cell? ⟨g6, 0, none⟩ = some (.bool y.up) ∧ w'.cell? ⟨g6, 1, none⟩ = some (.int .i64 y.term) ∧ w'.cell? ⟨g6, 2, none⟩ = some (.int .i64 y.gen) ∧ w'.cell? ⟨g6, 3, none⟩ = some (.int .i64 y.mode) ∧ w'.cell? ⟨g6, 4, none⟩ = some (.int .i64 y.job) ∧ w'.cell? ⟨g6, 5, none⟩ = some (.int .i64 y.inc) ∧ w'.cell? ⟨g6, 6, none⟩ = some (.int .i64 y.version) ∧ w'.cell? ⟨g6, 7, none⟩ = some (.int .i64 y.lease) ∧ w'.cell? ⟨g6, 8, none⟩ = some (.int .i64 y.worked) ∧ w'.cell? ⟨g6, 9, none⟩ = some (.int .i64 y.to_))))) (by kernel_rfl) (by exact keep S2.drew) (fun hHeld => ?_)
        change wpAnyH _ _ _ _ _ 20 (Array.replicate 20 false) _ _
        refine wpAnyH_take (i := 0) (v := ?v21) (ops_at rfl) (by kernel_rfl) (by kernel_rfl) (by kernel_rfl) (fun _ _ _ h => h) (Or.inl ⟨by rfl, ?hy21⟩) (by assumption) ?rest21
        case hy21 => intro w' hSw; (try dsimp only at hSw); go_simp; try with_reducible rfl
        try simp only [Act.put, List.setIfInBounds_toArray, List.set_cons_zero, List.set_cons_succ]
        refine wpAnyH_ready (rs := [1]) (by kernel_rfl) (by simp) ?_
        refine AllReadyH.cons (ops_at rfl) (fun K hK => ?_) AllReadyH.nil
        go_simp
        refine (wtHas x _).mono ?_
        rintro e w3 ⟨rfl, hb3⟩
        rw [HX.out]
        have S3 := S2.drew.grow hb3
        refine hK.out _ _ (by exact keep S3) (fun hHeld => ?_)
        clear hK K
        try simp only [Act.put, List.setIfInBounds_toArray, List.set_cons_zero, List.set_cons_succ]
        refine wpAnyH_take (i := 2) (v := ?v23) (ops_at rfl) (by kernel_rfl) (by kernel_rfl) (by kernel_rfl) (fun _ _ _ h => h) (Or.inl ⟨by rfl, ?hy23⟩) (by assumption) ?rest23
        case hy23 => intro w' hSw; (try dsimp only at hSw); go_simp; try with_reducible rfl
        try simp only [Act.put, List.setIfInBounds_toArray, List.set_cons_zero, List.set_cons_succ]
        refine wpAnyH_take (i := 3) (v := ?v24) (ops_at rfl) (by kernel_rfl) (by kernel_rfl) (by kernel_rfl) (fun _ _ _ h => h) (Or.inl ⟨by rfl, ?hy24⟩) (by assumption) ?rest24
        case hy24 => intro w' hSw; (try dsimp only at hSw); go_simp; try with_reducible rfl
        try simp only [Act.put, List.setIfInBounds_toArray, List.set_cons_zero, List.set_cons_succ]
        refine wpAnyH_ready (rs := [4]) (by kernel_rfl) (by simp) ?_
        refine AllReadyH.cons (ops_at rfl) (fun K hK => ?_) AllReadyH.nil
        go_simp
        refine (wtHas y _).mono ?_
        rintro e w4 ⟨rfl, hb4⟩
        rw [HY.out]
        have S4 := S3.grow hb4
        refine hK.out _ _ (by exact keep S4) (fun hHeld => ?_)
        clear hK K
        try simp only [Act.put, List.setIfInBounds_toArray, List.set_cons_zero, List.set_cons_succ]
        refine wpAnyH_take (i := 5) (v := ?v26) (ops_at rfl) (by kernel_rfl) (by kernel_rfl) (by kernel_rfl) (fun _ _ _ h => h) (Or.inl ⟨by rfl, ?hy26⟩) (by assumption) ?rest26
        case hy26 => intro w' hSw; (try dsimp only at hSw); go_simp; try with_reducible rfl
        try simp only [Act.put, List.setIfInBounds_toArray, List.set_cons_zero, List.set_cons_succ]
        refine wpAnyH_take (i := 6) (v := ?v27) (ops_at rfl) (by kernel_rfl) (by kernel_rfl) (by kernel_rfl) (fun _ _ _ h => h) (Or.inl ⟨by rfl, ?hy27⟩) (by assumption) ?rest27
        case hy27 => intro w' hSw; (try dsimp only at hSw); go_simp; try with_reducible rfl
        try simp only [Act.put, List.setIfInBounds_toArray, List.set_cons_zero, List.set_cons_succ]
        refine wpAnyH_take (i := 7) (v := undef) (ops_at rfl) (by kernel_rfl) (by kernel_rfl) (by kernel_rfl) (fun _ _ _ h => h) (Or.inr ⟨by rfl, rfl⟩) (by assumption) ?rest28
        try simp only [Act.put, List.setIfInBounds_toArray, List.set_cons_zero, List.set_cons_succ]
        refine wpAnyH_take (i := 8) (v := undef) (ops_at rfl) (by kernel_rfl) (by kernel_rfl) (by kernel_rfl) (fun _ _ _ h => h) (Or.inr ⟨by rfl, rfl⟩) (by assumption) ?rest29
        try simp only [Act.put, List.setIfInBounds_toArray, List.set_cons_zero, List.set_cons_succ]
        refine wpAnyH_take (i := 9) (v := undef) (ops_at rfl) (by kernel_rfl) (by kernel_rfl) (by kernel_rfl) (fun _ _ _ h => h) (Or.inr ⟨by rfl, rfl⟩) (by assumption) ?rest30
        try simp only [Act.put, List.setIfInBounds_toArray, List.set_cons_zero, List.set_cons_succ]
        refine wpAnyH_take (i := 10) (v := undef) (ops_at rfl) (by kernel_rfl) (by kernel_rfl) (by kernel_rfl) (fun _ _ _ h => h) (Or.inr ⟨by rfl, rfl⟩) (by assumption) ?rest31
        try simp only [Act.put, List.setIfInBounds_toArray, List.set_cons_zero, List.set_cons_succ]
        refine wpAnyH_take (i := 11) (v := undef) (ops_at rfl) (by kernel_rfl) (by kernel_rfl) (by kernel_rfl) (fun _ _ _ h => h) (Or.inr ⟨by rfl, rfl⟩) (by assumption) ?rest32
        try simp only [Act.put, List.setIfInBounds_toArray, List.set_cons_zero, List.set_cons_succ]
        refine wpAnyH_take (i := 12) (v := ?v33) (ops_at rfl) (by kernel_rfl) (by kernel_rfl) (by kernel_rfl) (fun _ _ _ h => h) (Or.inl ⟨by rfl, ?hy33⟩) (by assumption) ?rest33
        case hy33 => intro w' hSw; (try dsimp only at hSw); go_simp; try with_reducible rfl
        try simp only [Act.put, List.setIfInBounds_toArray, List.set_cons_zero, List.set_cons_succ]
        refine wpAnyH_take (i := 13) (v := ?v34) (ops_at rfl) (by kernel_rfl) (by kernel_rfl) (by kernel_rfl) (fun _ _ _ h => h) (Or.inl ⟨by rfl, ?hy34⟩) (by assumption) ?rest34
        case hy34 => intro w' hSw; (try dsimp only at hSw); go_simp; try with_reducible rfl
        try simp only [Act.put, List.setIfInBounds_toArray, List.set_cons_zero, List.set_cons_succ]
        refine wpAnyH_take (i := 14) (v := undef) (ops_at rfl) (by kernel_rfl) (by kernel_rfl) (by kernel_rfl) (fun _ _ _ h => h) (Or.inr ⟨by rfl, rfl⟩) (by assumption) ?rest35
        try simp only [Act.put, List.setIfInBounds_toArray, List.set_cons_zero, List.set_cons_succ]
        refine wpAnyH_take (i := 15) (v := undef) (ops_at rfl) (by kernel_rfl) (by kernel_rfl) (by kernel_rfl) (fun _ _ _ h => h) (Or.inr ⟨by rfl, rfl⟩) (by assumption) ?rest36
        try simp only [Act.put, List.setIfInBounds_toArray, List.set_cons_zero, List.set_cons_succ]
        refine wpAnyH_take (i := 16) (v := undef) (ops_at rfl) (by kernel_rfl) (by kernel_rfl) (by kernel_rfl) (fun _ _ _ h => h) (Or.inr ⟨by rfl, rfl⟩) (by assumption) ?rest37
        try simp only [Act.put, List.setIfInBounds_toArray, List.set_cons_zero, List.set_cons_succ]
        refine wpAnyH_take (i := 17) (v := undef) (ops_at rfl) (by kernel_rfl) (by kernel_rfl) (by kernel_rfl) (fun _ _ _ h => h) (Or.inr ⟨by rfl, rfl⟩) (by assumption) ?rest38
        try simp only [Act.put, List.setIfInBounds_toArray, List.set_cons_zero, List.set_cons_succ]
        refine wpAnyH_take (i := 18) (v := undef) (ops_at rfl) (by kernel_rfl) (by kernel_rfl) (by kernel_rfl) (fun _ _ _ h => h) (Or.inr ⟨by rfl, rfl⟩) (by assumption) ?rest39
        try simp only [Act.put, List.setIfInBounds_toArray, List.set_cons_zero, List.set_cons_succ]
        refine wpAnyH_take (i := 19) (v := ?v40) (ops_at rfl) (by kernel_rfl) (by kernel_rfl) (by kernel_rfl) (fun _ _ _ h => h) (Or.inl ⟨by rfl, ?hy40⟩) (by assumption) ?rest40
        case hy40 => intro w' hSw; (try dsimp only at hSw); go_simp; try with_reducible rfl
        try simp only [Act.put, List.setIfInBounds_toArray, List.set_cons_zero, List.set_cons_succ]
        refine wpAnyH_done (by kernel_rfl) ?_ _
        go_wp2
        go_roundw
        case rel => exact ⟨q + 1, by omega, by go_num, E.out, S4.tail⟩
        case measure => simp [intOf]; omega
      have qe : ∀ wx, (binOp .eql 56 (.agg #[.int .i64 x.job, .int .i64 x.inc]) (.agg #[.int .i64 y.job, .int .i64 y.inc])).run Try.prog wx = .ok (.bool (decide ([x.job, x.inc] = [y.job, y.inc]))) wx := fun wx => eqInts (t := 56) 2 gangT_ (by kernel_rfl) (by kernel_rfl) (by kernel_rfl) [x.job, x.inc] [y.job, y.inc] rfl rfl wx
      cases he : decide ([x.job, x.inc] = [y.job, y.inc])
      · have HX := hid hx
        have HY := hid hy
        have E : Hid ((L.take (q + 1)).any (mixA x) = false) := by rw [Hid, HTq.out, HNq.out, mixA, hx, hy, he]; rfl
        rw [he] at qe
        clear hx hy he HTq HMq HM HTk HNo HNq
        go_wp2_with fail
        generalize wr.heap.size = g6 at *
        generalize wr.alloc _ = w2 at *
        clear Sq y0 y1 y2 y3 y4 y5 y6 y7 y8 y9 i1
        have keep : ∀ {w' : World} {l : List Thing}, St w w' (cellsT g6 31 y.cs :: cellsT g4 31 x.cs :: l) → ((w'.cell? ⟨g4, 0, none⟩ = some (.bool x.up) ∧ w'.cell? ⟨g4, 1, none⟩ = some (.int .i64 x.term) ∧ w'.cell? ⟨g4, 2, none⟩ = some (.int .i64 x.gen) ∧ w'.cell? ⟨g4, 3, none⟩ = some (.int .i64 x.mode) ∧ w'.cell? ⟨g4, 4, none⟩ = some (.int .i64 x.job) ∧ w'.cell? ⟨g4, 5, none⟩ = some (.int .i64 x.inc) ∧ w'.cell? ⟨g4, 6, none⟩ = some (.int .i64 x.version) ∧ w'.cell? ⟨g4, 7, none⟩ = some (.int .i64 x.lease) ∧ w'.cell? ⟨g4, 8, none⟩ = some (.int .i64 x.worked) ∧ w'.cell? ⟨g4, 9, none⟩ = some (.int .i64 x.to_)) ∧ (w'.cell? ⟨g6, 0, none⟩ = some (.bool y.up) ∧ w'.cell? ⟨g6, 1, none⟩ = some (.int .i64 y.term) ∧ w'.cell? ⟨g6, 2, none⟩ = some (.int .i64 y.gen) ∧ w'.cell? ⟨g6, 3, none⟩ = some (.int .i64 y.mode) ∧ w'.cell? ⟨g6, 4, none⟩ = some (.int .i64 y.job) ∧ w'.cell? ⟨g6, 5, none⟩ = some (.int .i64 y.inc) ∧ w'.cell? ⟨g6, 6, none⟩ = some (.int .i64 y.version) ∧ w'.cell? ⟨g6, 7, none⟩ = some (.int .i64 y.lease) ∧ w'.cell? ⟨g6, 8, none⟩ = some (.int .i64 y.worked) ∧ w'.cell? ⟨g6, 9, none⟩ = some (.int .i64 y.to_))) := fun S => ⟨S.agK 1 rfl, S.agK 0 rfl⟩
        refine wp_region_held_drew (S := (fun w' => ((w'.cell? ⟨g4, 0, none⟩ = some (.bool x.up) ∧ w'.cell? ⟨g4, 1, none⟩ = some (.int .i64 x.term) ∧ w'.cell? ⟨g4, 2, none⟩ = some (.int .i64 x.gen) ∧ w'.cell? ⟨g4, 3, none⟩ = some (.int .i64 x.mode) ∧ w'.cell? ⟨g4, 4, none⟩ = some (.int .i64 x.job) ∧ w'.cell? ⟨g4, 5, none⟩ = some (.int .i64 x.inc) ∧ w'.cell? ⟨g4, 6, none⟩ = some (.int .i64 x.version) ∧ w'.cell? ⟨g4, 7, none⟩ = some (.int .i64 x.lease) ∧ w'.cell? ⟨g4, 8, none⟩ = some (.int .i64 x.worked) ∧ w'.cell? ⟨g4, 9, none⟩ = some (.int .i64 x.to_)) ∧ (w'.cell? ⟨g6, 0, none⟩ = some (.bool y.up) ∧ w'.cell? ⟨g6, 1, none⟩ = some (.int .i64 y.term) ∧ w'.cell? ⟨g6, 2, none⟩ = some (.int .i64 y.gen) ∧ w'.cell? ⟨g6, 3, none⟩ = some (.int .i64 y.mode) ∧ w'.cell? ⟨g6, 4, none⟩ = some (.int .i64 y.job) ∧ w'.cell? ⟨g6, 5, none⟩ = some (.int .i64 y.inc) ∧ w'.cell? ⟨g6, 6, none⟩ = some (.int .i64 y.version) ∧ w'.cell? ⟨g6, 7, none⟩ = some (.int .i64 y.lease) ∧ w'.cell? ⟨g6, 8, none⟩ = some (.int .i64 y.worked) ∧ w'.cell? ⟨g6, 9, none⟩ = some (.int .i64 y.to_))))) (by kernel_rfl) (by exact keep S2.drew) (fun hHeld => ?_)
        change wpAnyH _ _ _ _ _ 20 (Array.replicate 20 false) _ _
        refine wpAnyH_take (i := 0) (v := ?v41) (ops_at rfl) (by kernel_rfl) (by kernel_rfl) (by kernel_rfl) (fun _ _ _ h => h) (Or.inl ⟨by rfl, ?hy41⟩) (by assumption) ?rest41
        case hy41 => intro w' hSw; (try dsimp only at hSw); go_simp; try with_reducible rfl
        try simp only [Act.put, List.setIfInBounds_toArray, List.set_cons_zero, List.set_cons_succ]
        refine wpAnyH_ready (rs := [1]) (by kernel_rfl) (by simp) ?_
        refine AllReadyH.cons (ops_at rfl) (fun K hK => ?_) AllReadyH.nil
        go_simp
        refine (wtHas x _).mono ?_
        rintro e w3 ⟨rfl, hb3⟩
        rw [HX.out]
        have S3 := S2.drew.grow hb3
        refine hK.out _ _ (by exact keep S3) (fun hHeld => ?_)
        clear hK K
        try simp only [Act.put, List.setIfInBounds_toArray, List.set_cons_zero, List.set_cons_succ]
        refine wpAnyH_take (i := 2) (v := ?v43) (ops_at rfl) (by kernel_rfl) (by kernel_rfl) (by kernel_rfl) (fun _ _ _ h => h) (Or.inl ⟨by rfl, ?hy43⟩) (by assumption) ?rest43
        case hy43 => intro w' hSw; (try dsimp only at hSw); go_simp; try with_reducible rfl
        try simp only [Act.put, List.setIfInBounds_toArray, List.set_cons_zero, List.set_cons_succ]
        refine wpAnyH_take (i := 3) (v := ?v44) (ops_at rfl) (by kernel_rfl) (by kernel_rfl) (by kernel_rfl) (fun _ _ _ h => h) (Or.inl ⟨by rfl, ?hy44⟩) (by assumption) ?rest44
        case hy44 => intro w' hSw; (try dsimp only at hSw); go_simp; try with_reducible rfl
        try simp only [Act.put, List.setIfInBounds_toArray, List.set_cons_zero, List.set_cons_succ]
        refine wpAnyH_ready (rs := [4]) (by kernel_rfl) (by simp) ?_
        refine AllReadyH.cons (ops_at rfl) (fun K hK => ?_) AllReadyH.nil
        go_simp
        refine (wtHas y _).mono ?_
        rintro e w4 ⟨rfl, hb4⟩
        rw [HY.out]
        have S4 := S3.grow hb4
        refine hK.out _ _ (by exact keep S4) (fun hHeld => ?_)
        clear hK K
        try simp only [Act.put, List.setIfInBounds_toArray, List.set_cons_zero, List.set_cons_succ]
        refine wpAnyH_take (i := 5) (v := ?v46) (ops_at rfl) (by kernel_rfl) (by kernel_rfl) (by kernel_rfl) (fun _ _ _ h => h) (Or.inl ⟨by rfl, ?hy46⟩) (by assumption) ?rest46
        case hy46 => intro w' hSw; (try dsimp only at hSw); go_simp; try with_reducible rfl
        try simp only [Act.put, List.setIfInBounds_toArray, List.set_cons_zero, List.set_cons_succ]
        refine wpAnyH_take (i := 6) (v := ?v47) (ops_at rfl) (by kernel_rfl) (by kernel_rfl) (by kernel_rfl) (fun _ _ _ h => h) (Or.inl ⟨by rfl, ?hy47⟩) (by assumption) ?rest47
        case hy47 => intro w' hSw; (try dsimp only at hSw); go_simp; try with_reducible rfl
        try simp only [Act.put, List.setIfInBounds_toArray, List.set_cons_zero, List.set_cons_succ]
        refine wpAnyH_take (i := 7) (v := ?v48) (ops_at rfl) (by kernel_rfl) (by kernel_rfl) (by kernel_rfl) (fun _ _ _ h => h) (Or.inl ⟨by rfl, ?hy48⟩) (by assumption) ?rest48
        case hy48 => intro w' hSw; (try dsimp only at hSw); go_simp; try with_reducible rfl
        try simp only [Act.put, List.setIfInBounds_toArray, List.set_cons_zero, List.set_cons_succ]
        refine wpAnyH_take (i := 9) (v := ?v49) (ops_at rfl) (by kernel_rfl) (by kernel_rfl) (by kernel_rfl) (fun _ _ _ h => h) (Or.inl ⟨by rfl, ?hy49⟩) (by assumption) ?rest49
        case hy49 => intro w' hSw; (try dsimp only at hSw); go_simp; try with_reducible rfl
        try simp only [Act.put, List.setIfInBounds_toArray, List.set_cons_zero, List.set_cons_succ]
        refine wpAnyH_ready (rs := [8]) (by kernel_rfl) (by simp) ?_
        refine AllReadyH.cons (ops_at rfl) (fun K hK => ?_) AllReadyH.nil
        go_simp
        refine (wtOf x _).mono ?_
        rintro e w5 ⟨rfl, hb5⟩
        have S5 := S4.grow hb5
        refine hK.out _ _ (by exact keep S5) (fun hHeld => ?_)
        clear hK K
        try simp only [Act.put, List.setIfInBounds_toArray, List.set_cons_zero, List.set_cons_succ]
        refine wpAnyH_ready (rs := [10]) (by kernel_rfl) (by simp) ?_
        refine AllReadyH.cons (ops_at rfl) (fun K hK => ?_) AllReadyH.nil
        go_simp
        refine (wtOf y _).mono ?_
        rintro e w6 ⟨rfl, hb6⟩
        have S6 := S5.grow hb6
        refine hK.out _ _ (by exact keep S6) (fun hHeld => ?_)
        clear hK K
        try simp only [Act.put, List.setIfInBounds_toArray, List.set_cons_zero, List.set_cons_succ]
        refine wpAnyH_take (i := 11) (v := ?v52) (ops_at rfl) (by kernel_rfl) (by kernel_rfl) (by kernel_rfl) (fun _ _ _ h => h) (Or.inl ⟨by rfl, ?hy52⟩) (by assumption) ?rest52
        case hy52 => intro w' hSw; (try dsimp only at hSw); go_simp; try with_reducible rfl
        try simp only [Act.put, List.setIfInBounds_toArray, List.set_cons_zero, List.set_cons_succ]
        refine wpAnyH_take (i := 12) (v := ?v53) (ops_at rfl) (by kernel_rfl) (by kernel_rfl) (by kernel_rfl) (fun _ _ _ h => h) (Or.inl ⟨by rfl, ?hy53⟩) (by assumption) ?rest53
        case hy53 => intro w' hSw; (try dsimp only at hSw); go_simp; try with_reducible rfl
        try simp only [Act.put, List.setIfInBounds_toArray, List.set_cons_zero, List.set_cons_succ]
        refine wpAnyH_take (i := 13) (v := ?v54) (ops_at rfl) (by kernel_rfl) (by kernel_rfl) (by kernel_rfl) (fun _ _ _ h => h) (Or.inl ⟨by rfl, ?hy54⟩) (by assumption) ?rest54
        case hy54 => intro w' hSw; (try dsimp only at hSw); go_simp; try with_reducible rfl
        try simp only [Act.put, List.setIfInBounds_toArray, List.set_cons_zero, List.set_cons_succ]
        refine wpAnyH_take (i := 14) (v := undef) (ops_at rfl) (by kernel_rfl) (by kernel_rfl) (by kernel_rfl) (fun _ _ _ h => h) (Or.inr ⟨by rfl, rfl⟩) (by assumption) ?rest55
        try simp only [Act.put, List.setIfInBounds_toArray, List.set_cons_zero, List.set_cons_succ]
        refine wpAnyH_take (i := 15) (v := undef) (ops_at rfl) (by kernel_rfl) (by kernel_rfl) (by kernel_rfl) (fun _ _ _ h => h) (Or.inr ⟨by rfl, rfl⟩) (by assumption) ?rest56
        try simp only [Act.put, List.setIfInBounds_toArray, List.set_cons_zero, List.set_cons_succ]
        refine wpAnyH_take (i := 16) (v := undef) (ops_at rfl) (by kernel_rfl) (by kernel_rfl) (by kernel_rfl) (fun _ _ _ h => h) (Or.inr ⟨by rfl, rfl⟩) (by assumption) ?rest57
        try simp only [Act.put, List.setIfInBounds_toArray, List.set_cons_zero, List.set_cons_succ]
        refine wpAnyH_take (i := 17) (v := undef) (ops_at rfl) (by kernel_rfl) (by kernel_rfl) (by kernel_rfl) (fun _ _ _ h => h) (Or.inr ⟨by rfl, rfl⟩) (by assumption) ?rest58
        try simp only [Act.put, List.setIfInBounds_toArray, List.set_cons_zero, List.set_cons_succ]
        refine wpAnyH_take (i := 18) (v := undef) (ops_at rfl) (by kernel_rfl) (by kernel_rfl) (by kernel_rfl) (fun _ _ _ h => h) (Or.inr ⟨by rfl, rfl⟩) (by assumption) ?rest59
        try simp only [Act.put, List.setIfInBounds_toArray, List.set_cons_zero, List.set_cons_succ]
        refine wpAnyH_take (i := 19) (v := ?v60) (ops_at rfl) (by kernel_rfl) (by kernel_rfl) (by kernel_rfl) (fun _ _ _ h => h) (Or.inl ⟨by rfl, ?hy60⟩) (by assumption) ?rest60
        case hy60 => intro w' hSw; (try dsimp only at hSw); go_simp; try with_reducible rfl
        try simp only [Act.put, List.setIfInBounds_toArray, List.set_cons_zero, List.set_cons_succ]
        refine wpAnyH_done (by kernel_rfl) ?_ _
        go_wp2
        go_roundw
        case rel => exact ⟨q + 1, by omega, by go_num, E.out, S6.tail⟩
        case measure => simp [intOf]; omega
      · have HX := hid hx
        have HY := hid hy
        have E0 : Hid (mixA x y = (x.version != y.version)) := by rw [Hid, mixA, hx, hy, he]; rfl
        have E1 : Hid ((L.take (q + 1)).any (mixA x) = (x.version != y.version)) := by rw [Hid, HTq.out, HNq.out, E0.out]; rfl
        have E2 : Hid ((x.version != y.version) = true → mixL L = true) := fun h => HMq.out (by rw [E0.out]; exact h)
        rw [he] at qe
        clear hx hy he HTq HMq HM HTk HNo HNq E0
        cases hv : (x.version != y.version)
        · have E : Hid ((L.take (q + 1)).any (mixA x) = false) := by rw [Hid, E1.out, hv]
          clear E1 E2
          go_wp2_with fail
          generalize wr.heap.size = g6 at *
          generalize wr.alloc _ = w2 at *
          clear Sq y0 y1 y2 y3 y4 y5 y6 y7 y8 y9 i1
          have keep : ∀ {w' : World} {l : List Thing}, St w w' (cellsT g6 31 y.cs :: cellsT g4 31 x.cs :: l) → ((w'.cell? ⟨g4, 0, none⟩ = some (.bool x.up) ∧ w'.cell? ⟨g4, 1, none⟩ = some (.int .i64 x.term) ∧ w'.cell? ⟨g4, 2, none⟩ = some (.int .i64 x.gen) ∧ w'.cell? ⟨g4, 3, none⟩ = some (.int .i64 x.mode) ∧ w'.cell? ⟨g4, 4, none⟩ = some (.int .i64 x.job) ∧ w'.cell? ⟨g4, 5, none⟩ = some (.int .i64 x.inc) ∧ w'.cell? ⟨g4, 6, none⟩ = some (.int .i64 x.version) ∧ w'.cell? ⟨g4, 7, none⟩ = some (.int .i64 x.lease) ∧ w'.cell? ⟨g4, 8, none⟩ = some (.int .i64 x.worked) ∧ w'.cell? ⟨g4, 9, none⟩ = some (.int .i64 x.to_)) ∧ (w'.cell? ⟨g6, 0, none⟩ = some (.bool y.up) ∧ w'.cell? ⟨g6, 1, none⟩ = some (.int .i64 y.term) ∧ w'.cell? ⟨g6, 2, none⟩ = some (.int .i64 y.gen) ∧ w'.cell? ⟨g6, 3, none⟩ = some (.int .i64 y.mode) ∧ w'.cell? ⟨g6, 4, none⟩ = some (.int .i64 y.job) ∧ w'.cell? ⟨g6, 5, none⟩ = some (.int .i64 y.inc) ∧ w'.cell? ⟨g6, 6, none⟩ = some (.int .i64 y.version) ∧ w'.cell? ⟨g6, 7, none⟩ = some (.int .i64 y.lease) ∧ w'.cell? ⟨g6, 8, none⟩ = some (.int .i64 y.worked) ∧ w'.cell? ⟨g6, 9, none⟩ = some (.int .i64 y.to_))) := fun S => ⟨S.agK 1 rfl, S.agK 0 rfl⟩
          refine wp_region_held_drew (S := (fun w' => ((w'.cell? ⟨g4, 0, none⟩ = some (.bool x.up) ∧ w'.cell? ⟨g4, 1, none⟩ = some (.int .i64 x.term) ∧ w'.cell? ⟨g4, 2, none⟩ = some (.int .i64 x.gen) ∧ w'.cell? ⟨g4, 3, none⟩ = some (.int .i64 x.mode) ∧ w'.cell? ⟨g4, 4, none⟩ = some (.int .i64 x.job) ∧ w'.cell? ⟨g4, 5, none⟩ = some (.int .i64 x.inc) ∧ w'.cell? ⟨g4, 6, none⟩ = some (.int .i64 x.version) ∧ w'.cell? ⟨g4, 7, none⟩ = some (.int .i64 x.lease) ∧ w'.cell? ⟨g4, 8, none⟩ = some (.int .i64 x.worked) ∧ w'.cell? ⟨g4, 9, none⟩ = some (.int .i64 x.to_)) ∧ (w'.cell? ⟨g6, 0, none⟩ = some (.bool y.up) ∧ w'.cell? ⟨g6, 1, none⟩ = some (.int .i64 y.term) ∧ w'.cell? ⟨g6, 2, none⟩ = some (.int .i64 y.gen) ∧ w'.cell? ⟨g6, 3, none⟩ = some (.int .i64 y.mode) ∧ w'.cell? ⟨g6, 4, none⟩ = some (.int .i64 y.job) ∧ w'.cell? ⟨g6, 5, none⟩ = some (.int .i64 y.inc) ∧ w'.cell? ⟨g6, 6, none⟩ = some (.int .i64 y.version) ∧ w'.cell? ⟨g6, 7, none⟩ = some (.int .i64 y.lease) ∧ w'.cell? ⟨g6, 8, none⟩ = some (.int .i64 y.worked) ∧ w'.cell? ⟨g6, 9, none⟩ = some (.int .i64 y.to_))))) (by kernel_rfl) (by exact keep S2.drew) (fun hHeld => ?_)
          change wpAnyH _ _ _ _ _ 20 (Array.replicate 20 false) _ _
          refine wpAnyH_take (i := 0) (v := ?v61) (ops_at rfl) (by kernel_rfl) (by kernel_rfl) (by kernel_rfl) (fun _ _ _ h => h) (Or.inl ⟨by rfl, ?hy61⟩) (by assumption) ?rest61
          case hy61 => intro w' hSw; (try dsimp only at hSw); go_simp; try with_reducible rfl
          try simp only [Act.put, List.setIfInBounds_toArray, List.set_cons_zero, List.set_cons_succ]
          refine wpAnyH_ready (rs := [1]) (by kernel_rfl) (by simp) ?_
          refine AllReadyH.cons (ops_at rfl) (fun K hK => ?_) AllReadyH.nil
          go_simp
          refine (wtHas x _).mono ?_
          rintro e w3 ⟨rfl, hb3⟩
          rw [HX.out]
          have S3 := S2.drew.grow hb3
          refine hK.out _ _ (by exact keep S3) (fun hHeld => ?_)
          clear hK K
          try simp only [Act.put, List.setIfInBounds_toArray, List.set_cons_zero, List.set_cons_succ]
          refine wpAnyH_take (i := 2) (v := ?v63) (ops_at rfl) (by kernel_rfl) (by kernel_rfl) (by kernel_rfl) (fun _ _ _ h => h) (Or.inl ⟨by rfl, ?hy63⟩) (by assumption) ?rest63
          case hy63 => intro w' hSw; (try dsimp only at hSw); go_simp; try with_reducible rfl
          try simp only [Act.put, List.setIfInBounds_toArray, List.set_cons_zero, List.set_cons_succ]
          refine wpAnyH_take (i := 3) (v := ?v64) (ops_at rfl) (by kernel_rfl) (by kernel_rfl) (by kernel_rfl) (fun _ _ _ h => h) (Or.inl ⟨by rfl, ?hy64⟩) (by assumption) ?rest64
          case hy64 => intro w' hSw; (try dsimp only at hSw); go_simp; try with_reducible rfl
          try simp only [Act.put, List.setIfInBounds_toArray, List.set_cons_zero, List.set_cons_succ]
          refine wpAnyH_ready (rs := [4]) (by kernel_rfl) (by simp) ?_
          refine AllReadyH.cons (ops_at rfl) (fun K hK => ?_) AllReadyH.nil
          go_simp
          refine (wtHas y _).mono ?_
          rintro e w4 ⟨rfl, hb4⟩
          rw [HY.out]
          have S4 := S3.grow hb4
          refine hK.out _ _ (by exact keep S4) (fun hHeld => ?_)
          clear hK K
          try simp only [Act.put, List.setIfInBounds_toArray, List.set_cons_zero, List.set_cons_succ]
          refine wpAnyH_take (i := 5) (v := ?v66) (ops_at rfl) (by kernel_rfl) (by kernel_rfl) (by kernel_rfl) (fun _ _ _ h => h) (Or.inl ⟨by rfl, ?hy66⟩) (by assumption) ?rest66
          case hy66 => intro w' hSw; (try dsimp only at hSw); go_simp; try with_reducible rfl
          try simp only [Act.put, List.setIfInBounds_toArray, List.set_cons_zero, List.set_cons_succ]
          refine wpAnyH_take (i := 6) (v := ?v67) (ops_at rfl) (by kernel_rfl) (by kernel_rfl) (by kernel_rfl) (fun _ _ _ h => h) (Or.inl ⟨by rfl, ?hy67⟩) (by assumption) ?rest67
          case hy67 => intro w' hSw; (try dsimp only at hSw); go_simp; try with_reducible rfl
          try simp only [Act.put, List.setIfInBounds_toArray, List.set_cons_zero, List.set_cons_succ]
          refine wpAnyH_take (i := 7) (v := ?v68) (ops_at rfl) (by kernel_rfl) (by kernel_rfl) (by kernel_rfl) (fun _ _ _ h => h) (Or.inl ⟨by rfl, ?hy68⟩) (by assumption) ?rest68
          case hy68 => intro w' hSw; (try dsimp only at hSw); go_simp; try with_reducible rfl
          try simp only [Act.put, List.setIfInBounds_toArray, List.set_cons_zero, List.set_cons_succ]
          refine wpAnyH_take (i := 9) (v := ?v69) (ops_at rfl) (by kernel_rfl) (by kernel_rfl) (by kernel_rfl) (fun _ _ _ h => h) (Or.inl ⟨by rfl, ?hy69⟩) (by assumption) ?rest69
          case hy69 => intro w' hSw; (try dsimp only at hSw); go_simp; try with_reducible rfl
          try simp only [Act.put, List.setIfInBounds_toArray, List.set_cons_zero, List.set_cons_succ]
          refine wpAnyH_ready (rs := [8]) (by kernel_rfl) (by simp) ?_
          refine AllReadyH.cons (ops_at rfl) (fun K hK => ?_) AllReadyH.nil
          go_simp
          refine (wtOf x _).mono ?_
          rintro e w5 ⟨rfl, hb5⟩
          have S5 := S4.grow hb5
          refine hK.out _ _ (by exact keep S5) (fun hHeld => ?_)
          clear hK K
          try simp only [Act.put, List.setIfInBounds_toArray, List.set_cons_zero, List.set_cons_succ]
          refine wpAnyH_ready (rs := [10]) (by kernel_rfl) (by simp) ?_
          refine AllReadyH.cons (ops_at rfl) (fun K hK => ?_) AllReadyH.nil
          go_simp
          refine (wtOf y _).mono ?_
          rintro e w6 ⟨rfl, hb6⟩
          have S6 := S5.grow hb6
          refine hK.out _ _ (by exact keep S6) (fun hHeld => ?_)
          clear hK K
          try simp only [Act.put, List.setIfInBounds_toArray, List.set_cons_zero, List.set_cons_succ]
          refine wpAnyH_take (i := 11) (v := ?v72) (ops_at rfl) (by kernel_rfl) (by kernel_rfl) (by kernel_rfl) (fun _ _ _ h => h) (Or.inl ⟨by rfl, ?hy72⟩) (by assumption) ?rest72
          case hy72 => intro w' hSw; (try dsimp only at hSw); go_simp; try with_reducible rfl
          try simp only [Act.put, List.setIfInBounds_toArray, List.set_cons_zero, List.set_cons_succ]
          refine wpAnyH_take (i := 12) (v := ?v73) (ops_at rfl) (by kernel_rfl) (by kernel_rfl) (by kernel_rfl) (fun _ _ _ h => h) (Or.inl ⟨by rfl, ?hy73⟩) (by assumption) ?rest73
          case hy73 => intro w' hSw; (try dsimp only at hSw); go_simp; try with_reducible rfl
          try simp only [Act.put, List.setIfInBounds_toArray, List.set_cons_zero, List.set_cons_succ]
          refine wpAnyH_take (i := 13) (v := ?v74) (ops_at rfl) (by kernel_rfl) (by kernel_rfl) (by kernel_rfl) (fun _ _ _ h => h) (Or.inl ⟨by rfl, ?hy74⟩) (by assumption) ?rest74
          case hy74 => intro w' hSw; (try dsimp only at hSw); go_simp; try with_reducible rfl
          try simp only [Act.put, List.setIfInBounds_toArray, List.set_cons_zero, List.set_cons_succ]
          refine wpAnyH_take (i := 14) (v := ?v75) (ops_at rfl) (by kernel_rfl) (by kernel_rfl) (by kernel_rfl) (fun _ _ _ h => h) (Or.inl ⟨by rfl, ?hy75⟩) (by assumption) ?rest75
          case hy75 => intro w' hSw; (try dsimp only at hSw); go_simp; try with_reducible rfl
          try simp only [Act.put, List.setIfInBounds_toArray, List.set_cons_zero, List.set_cons_succ]
          refine wpAnyH_take (i := 15) (v := ?v76) (ops_at rfl) (by kernel_rfl) (by kernel_rfl) (by kernel_rfl) (fun _ _ _ h => h) (Or.inl ⟨by rfl, ?hy76⟩) (by assumption) ?rest76
          case hy76 => intro w' hSw; (try dsimp only at hSw); go_simp; try with_reducible rfl
          try simp only [Act.put, List.setIfInBounds_toArray, List.set_cons_zero, List.set_cons_succ]
          refine wpAnyH_take (i := 16) (v := ?v77) (ops_at rfl) (by kernel_rfl) (by kernel_rfl) (by kernel_rfl) (fun _ _ _ h => h) (Or.inl ⟨by rfl, ?hy77⟩) (by assumption) ?rest77
          case hy77 => intro w' hSw; (try dsimp only at hSw); go_simp; try with_reducible rfl
          try simp only [Act.put, List.setIfInBounds_toArray, List.set_cons_zero, List.set_cons_succ]
          refine wpAnyH_take (i := 17) (v := ?v78) (ops_at rfl) (by kernel_rfl) (by kernel_rfl) (by kernel_rfl) (fun _ _ _ h => h) (Or.inl ⟨by rfl, ?hy78⟩) (by assumption) ?rest78
          case hy78 => intro w' hSw; (try dsimp only at hSw); go_simp; try with_reducible rfl
          try simp only [Act.put, List.setIfInBounds_toArray, List.set_cons_zero, List.set_cons_succ]
          refine wpAnyH_take (i := 18) (v := ?v79) (ops_at rfl) (by kernel_rfl) (by kernel_rfl) (by kernel_rfl) (fun _ _ _ h => h) (Or.inl ⟨by rfl, ?hy79⟩) (by assumption) ?rest79
          case hy79 => intro w' hSw; (try dsimp only at hSw); go_simp; try with_reducible rfl
          try simp only [Act.put, List.setIfInBounds_toArray, List.set_cons_zero, List.set_cons_succ]
          refine wpAnyH_take (i := 19) (v := ?v80) (ops_at rfl) (by kernel_rfl) (by kernel_rfl) (by kernel_rfl) (fun _ _ _ h => h) (Or.inl ⟨by rfl, ?hy80⟩) (by assumption) ?rest80
          case hy80 => intro w' hSw; (try dsimp only at hSw); go_simp; try with_reducible rfl
          try simp only [Act.put, List.setIfInBounds_toArray, List.set_cons_zero, List.set_cons_succ]
          refine wpAnyH_done (by kernel_rfl) ?_ _
          go_wp2
          go_roundw
          case rel => exact ⟨q + 1, by omega, by go_num, E.out, S6.tail⟩
          case measure => simp [intOf]; omega
        · have E : Hid (mixL L = true) := E2.out hv
          clear E1 E2
          go_wp2_with fail
          generalize wr.heap.size = g6 at *
          generalize wr.alloc _ = w2 at *
          clear Sq y0 y1 y2 y3 y4 y5 y6 y7 y8 y9 i1
          have keep : ∀ {w' : World} {l : List Thing}, St w w' (cellsT g6 31 y.cs :: cellsT g4 31 x.cs :: l) → ((w'.cell? ⟨g4, 0, none⟩ = some (.bool x.up) ∧ w'.cell? ⟨g4, 1, none⟩ = some (.int .i64 x.term) ∧ w'.cell? ⟨g4, 2, none⟩ = some (.int .i64 x.gen) ∧ w'.cell? ⟨g4, 3, none⟩ = some (.int .i64 x.mode) ∧ w'.cell? ⟨g4, 4, none⟩ = some (.int .i64 x.job) ∧ w'.cell? ⟨g4, 5, none⟩ = some (.int .i64 x.inc) ∧ w'.cell? ⟨g4, 6, none⟩ = some (.int .i64 x.version) ∧ w'.cell? ⟨g4, 7, none⟩ = some (.int .i64 x.lease) ∧ w'.cell? ⟨g4, 8, none⟩ = some (.int .i64 x.worked) ∧ w'.cell? ⟨g4, 9, none⟩ = some (.int .i64 x.to_)) ∧ (w'.cell? ⟨g6, 0, none⟩ = some (.bool y.up) ∧ w'.cell? ⟨g6, 1, none⟩ = some (.int .i64 y.term) ∧ w'.cell? ⟨g6, 2, none⟩ = some (.int .i64 y.gen) ∧ w'.cell? ⟨g6, 3, none⟩ = some (.int .i64 y.mode) ∧ w'.cell? ⟨g6, 4, none⟩ = some (.int .i64 y.job) ∧ w'.cell? ⟨g6, 5, none⟩ = some (.int .i64 y.inc) ∧ w'.cell? ⟨g6, 6, none⟩ = some (.int .i64 y.version) ∧ w'.cell? ⟨g6, 7, none⟩ = some (.int .i64 y.lease) ∧ w'.cell? ⟨g6, 8, none⟩ = some (.int .i64 y.worked) ∧ w'.cell? ⟨g6, 9, none⟩ = some (.int .i64 y.to_))) := fun S => ⟨S.agK 1 rfl, S.agK 0 rfl⟩
          refine wp_region_held_drew (S := (fun w' => ((w'.cell? ⟨g4, 0, none⟩ = some (.bool x.up) ∧ w'.cell? ⟨g4, 1, none⟩ = some (.int .i64 x.term) ∧ w'.cell? ⟨g4, 2, none⟩ = some (.int .i64 x.gen) ∧ w'.cell? ⟨g4, 3, none⟩ = some (.int .i64 x.mode) ∧ w'.cell? ⟨g4, 4, none⟩ = some (.int .i64 x.job) ∧ w'.cell? ⟨g4, 5, none⟩ = some (.int .i64 x.inc) ∧ w'.cell? ⟨g4, 6, none⟩ = some (.int .i64 x.version) ∧ w'.cell? ⟨g4, 7, none⟩ = some (.int .i64 x.lease) ∧ w'.cell? ⟨g4, 8, none⟩ = some (.int .i64 x.worked) ∧ w'.cell? ⟨g4, 9, none⟩ = some (.int .i64 x.to_)) ∧ (w'.cell? ⟨g6, 0, none⟩ = some (.bool y.up) ∧ w'.cell? ⟨g6, 1, none⟩ = some (.int .i64 y.term) ∧ w'.cell? ⟨g6, 2, none⟩ = some (.int .i64 y.gen) ∧ w'.cell? ⟨g6, 3, none⟩ = some (.int .i64 y.mode) ∧ w'.cell? ⟨g6, 4, none⟩ = some (.int .i64 y.job) ∧ w'.cell? ⟨g6, 5, none⟩ = some (.int .i64 y.inc) ∧ w'.cell? ⟨g6, 6, none⟩ = some (.int .i64 y.version) ∧ w'.cell? ⟨g6, 7, none⟩ = some (.int .i64 y.lease) ∧ w'.cell? ⟨g6, 8, none⟩ = some (.int .i64 y.worked) ∧ w'.cell? ⟨g6, 9, none⟩ = some (.int .i64 y.to_))))) (by kernel_rfl) (by exact keep S2.drew) (fun hHeld => ?_)
          change wpAnyH _ _ _ _ _ 20 (Array.replicate 20 false) _ _
          refine wpAnyH_take (i := 0) (v := ?v81) (ops_at rfl) (by kernel_rfl) (by kernel_rfl) (by kernel_rfl) (fun _ _ _ h => h) (Or.inl ⟨by rfl, ?hy81⟩) (by assumption) ?rest81
          case hy81 => intro w' hSw; (try dsimp only at hSw); go_simp; try with_reducible rfl
          try simp only [Act.put, List.setIfInBounds_toArray, List.set_cons_zero, List.set_cons_succ]
          refine wpAnyH_ready (rs := [1]) (by kernel_rfl) (by simp) ?_
          refine AllReadyH.cons (ops_at rfl) (fun K hK => ?_) AllReadyH.nil
          go_simp
          refine (wtHas x _).mono ?_
          rintro e w3 ⟨rfl, hb3⟩
          rw [HX.out]
          have S3 := S2.drew.grow hb3
          refine hK.out _ _ (by exact keep S3) (fun hHeld => ?_)
          clear hK K
          try simp only [Act.put, List.setIfInBounds_toArray, List.set_cons_zero, List.set_cons_succ]
          refine wpAnyH_take (i := 2) (v := ?v83) (ops_at rfl) (by kernel_rfl) (by kernel_rfl) (by kernel_rfl) (fun _ _ _ h => h) (Or.inl ⟨by rfl, ?hy83⟩) (by assumption) ?rest83
          case hy83 => intro w' hSw; (try dsimp only at hSw); go_simp; try with_reducible rfl
          try simp only [Act.put, List.setIfInBounds_toArray, List.set_cons_zero, List.set_cons_succ]
          refine wpAnyH_take (i := 3) (v := ?v84) (ops_at rfl) (by kernel_rfl) (by kernel_rfl) (by kernel_rfl) (fun _ _ _ h => h) (Or.inl ⟨by rfl, ?hy84⟩) (by assumption) ?rest84
          case hy84 => intro w' hSw; (try dsimp only at hSw); go_simp; try with_reducible rfl
          try simp only [Act.put, List.setIfInBounds_toArray, List.set_cons_zero, List.set_cons_succ]
          refine wpAnyH_ready (rs := [4]) (by kernel_rfl) (by simp) ?_
          refine AllReadyH.cons (ops_at rfl) (fun K hK => ?_) AllReadyH.nil
          go_simp
          refine (wtHas y _).mono ?_
          rintro e w4 ⟨rfl, hb4⟩
          rw [HY.out]
          have S4 := S3.grow hb4
          refine hK.out _ _ (by exact keep S4) (fun hHeld => ?_)
          clear hK K
          try simp only [Act.put, List.setIfInBounds_toArray, List.set_cons_zero, List.set_cons_succ]
          refine wpAnyH_take (i := 5) (v := ?v86) (ops_at rfl) (by kernel_rfl) (by kernel_rfl) (by kernel_rfl) (fun _ _ _ h => h) (Or.inl ⟨by rfl, ?hy86⟩) (by assumption) ?rest86
          case hy86 => intro w' hSw; (try dsimp only at hSw); go_simp; try with_reducible rfl
          try simp only [Act.put, List.setIfInBounds_toArray, List.set_cons_zero, List.set_cons_succ]
          refine wpAnyH_take (i := 6) (v := ?v87) (ops_at rfl) (by kernel_rfl) (by kernel_rfl) (by kernel_rfl) (fun _ _ _ h => h) (Or.inl ⟨by rfl, ?hy87⟩) (by assumption) ?rest87
          case hy87 => intro w' hSw; (try dsimp only at hSw); go_simp; try with_reducible rfl
          try simp only [Act.put, List.setIfInBounds_toArray, List.set_cons_zero, List.set_cons_succ]
          refine wpAnyH_take (i := 7) (v := ?v88) (ops_at rfl) (by kernel_rfl) (by kernel_rfl) (by kernel_rfl) (fun _ _ _ h => h) (Or.inl ⟨by rfl, ?hy88⟩) (by assumption) ?rest88
          case hy88 => intro w' hSw; (try dsimp only at hSw); go_simp; try with_reducible rfl
          try simp only [Act.put, List.setIfInBounds_toArray, List.set_cons_zero, List.set_cons_succ]
          refine wpAnyH_take (i := 9) (v := ?v89) (ops_at rfl) (by kernel_rfl) (by kernel_rfl) (by kernel_rfl) (fun _ _ _ h => h) (Or.inl ⟨by rfl, ?hy89⟩) (by assumption) ?rest89
          case hy89 => intro w' hSw; (try dsimp only at hSw); go_simp; try with_reducible rfl
          try simp only [Act.put, List.setIfInBounds_toArray, List.set_cons_zero, List.set_cons_succ]
          refine wpAnyH_ready (rs := [8]) (by kernel_rfl) (by simp) ?_
          refine AllReadyH.cons (ops_at rfl) (fun K hK => ?_) AllReadyH.nil
          go_simp
          refine (wtOf x _).mono ?_
          rintro e w5 ⟨rfl, hb5⟩
          have S5 := S4.grow hb5
          refine hK.out _ _ (by exact keep S5) (fun hHeld => ?_)
          clear hK K
          try simp only [Act.put, List.setIfInBounds_toArray, List.set_cons_zero, List.set_cons_succ]
          refine wpAnyH_ready (rs := [10]) (by kernel_rfl) (by simp) ?_
          refine AllReadyH.cons (ops_at rfl) (fun K hK => ?_) AllReadyH.nil
          go_simp
          refine (wtOf y _).mono ?_
          rintro e w6 ⟨rfl, hb6⟩
          have S6 := S5.grow hb6
          refine hK.out _ _ (by exact keep S6) (fun hHeld => ?_)
          clear hK K
          try simp only [Act.put, List.setIfInBounds_toArray, List.set_cons_zero, List.set_cons_succ]
          refine wpAnyH_take (i := 11) (v := ?v92) (ops_at rfl) (by kernel_rfl) (by kernel_rfl) (by kernel_rfl) (fun _ _ _ h => h) (Or.inl ⟨by rfl, ?hy92⟩) (by assumption) ?rest92
          case hy92 => intro w' hSw; (try dsimp only at hSw); go_simp; try with_reducible rfl
          try simp only [Act.put, List.setIfInBounds_toArray, List.set_cons_zero, List.set_cons_succ]
          refine wpAnyH_take (i := 12) (v := ?v93) (ops_at rfl) (by kernel_rfl) (by kernel_rfl) (by kernel_rfl) (fun _ _ _ h => h) (Or.inl ⟨by rfl, ?hy93⟩) (by assumption) ?rest93
          case hy93 => intro w' hSw; (try dsimp only at hSw); go_simp; try with_reducible rfl
          try simp only [Act.put, List.setIfInBounds_toArray, List.set_cons_zero, List.set_cons_succ]
          refine wpAnyH_take (i := 13) (v := ?v94) (ops_at rfl) (by kernel_rfl) (by kernel_rfl) (by kernel_rfl) (fun _ _ _ h => h) (Or.inl ⟨by rfl, ?hy94⟩) (by assumption) ?rest94
          case hy94 => intro w' hSw; (try dsimp only at hSw); go_simp; try with_reducible rfl
          try simp only [Act.put, List.setIfInBounds_toArray, List.set_cons_zero, List.set_cons_succ]
          refine wpAnyH_take (i := 14) (v := ?v95) (ops_at rfl) (by kernel_rfl) (by kernel_rfl) (by kernel_rfl) (fun _ _ _ h => h) (Or.inl ⟨by rfl, ?hy95⟩) (by assumption) ?rest95
          case hy95 => intro w' hSw; (try dsimp only at hSw); go_simp; try with_reducible rfl
          try simp only [Act.put, List.setIfInBounds_toArray, List.set_cons_zero, List.set_cons_succ]
          refine wpAnyH_take (i := 15) (v := ?v96) (ops_at rfl) (by kernel_rfl) (by kernel_rfl) (by kernel_rfl) (fun _ _ _ h => h) (Or.inl ⟨by rfl, ?hy96⟩) (by assumption) ?rest96
          case hy96 => intro w' hSw; (try dsimp only at hSw); go_simp; try with_reducible rfl
          try simp only [Act.put, List.setIfInBounds_toArray, List.set_cons_zero, List.set_cons_succ]
          refine wpAnyH_take (i := 16) (v := ?v97) (ops_at rfl) (by kernel_rfl) (by kernel_rfl) (by kernel_rfl) (fun _ _ _ h => h) (Or.inl ⟨by rfl, ?hy97⟩) (by assumption) ?rest97
          case hy97 => intro w' hSw; (try dsimp only at hSw); go_simp; try with_reducible rfl
          try simp only [Act.put, List.setIfInBounds_toArray, List.set_cons_zero, List.set_cons_succ]
          refine wpAnyH_take (i := 17) (v := ?v98) (ops_at rfl) (by kernel_rfl) (by kernel_rfl) (by kernel_rfl) (fun _ _ _ h => h) (Or.inl ⟨by rfl, ?hy98⟩) (by assumption) ?rest98
          case hy98 => intro w' hSw; (try dsimp only at hSw); go_simp; try with_reducible rfl
          try simp only [Act.put, List.setIfInBounds_toArray, List.set_cons_zero, List.set_cons_succ]
          refine wpAnyH_take (i := 18) (v := ?v99) (ops_at rfl) (by kernel_rfl) (by kernel_rfl) (by kernel_rfl) (fun _ _ _ h => h) (Or.inl ⟨by rfl, ?hy99⟩) (by assumption) ?rest99
          case hy99 => intro w' hSw; (try dsimp only at hSw); go_simp; try with_reducible rfl
          try simp only [Act.put, List.setIfInBounds_toArray, List.set_cons_zero, List.set_cons_succ]
          refine wpAnyH_take (i := 19) (v := ?v100) (ops_at rfl) (by kernel_rfl) (by kernel_rfl) (by kernel_rfl) (fun _ _ _ h => h) (Or.inl ⟨by rfl, ?hy100⟩) (by assumption) ?rest100
          case hy100 => intro w' hSw; (try dsimp only at hSw); go_simp; try with_reducible rfl
          try simp only [Act.put, List.setIfInBounds_toArray, List.set_cons_zero, List.set_cons_succ]
          refine wpAnyH_done (by kernel_rfl) ?_ _
          go_wp2
          go_ret
          exact ⟨by rw [E.out]; rfl, S6.fin⟩
end Go.Proofs.Ytilobmefomoemaa
