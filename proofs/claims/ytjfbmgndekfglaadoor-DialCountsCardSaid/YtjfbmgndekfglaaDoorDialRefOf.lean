/- The document's dial. -/
import Derived.Test.YtjfbmgndekfglaaDoorDialRef
import Derived.Test.YtjfbmgndekfglaaDoorDialOf
import Derived.Deep.CutRange
import Derived.Deep.LoopGhost
namespace Go.Proofs.YtjfbmgndekfglaaDoor
set_option linter.unusedVariables false
set_option linter.unusedSimpArgs false
open Go.RowKit
def qRow (J : List JB) (k q : Nat) : Q5 := ⟨qCnt J k (q * 5), qCnt J k (q * 5 + 1), qCnt J k (q * 5 + 2), qCnt J k (q * 5 + 3), qCnt J k (q * 5 + 4)⟩
def qRows (J : List JB) (n : Nat) : List Q5 := (List.range n).map (qRow J J.length)
def rowC (J : List JB) (k q : Nat) : List Value := (List.range 5).map fun p => .int .i64 (qCnt J k (q * 5 + p))
theorem rowC_zero (J : List JB) (q : Nat) : rowC J 0 q = [.int .i64 0, .int .i64 0, .int .i64 0, .int .i64 0, .int .i64 0] := rfl
theorem rowC_cs (J : List JB) (k q : Nat) : (qRow J k q).cs = rowC J k q := rfl
theorem rowC_same (J : List JB) (k q : Nat) (h : k < J.length) (hp0 : 0 ≤ J[k].phase) (hp1 : J[k].phase ≤ 4) (hq0 : 0 ≤ J[k].queue) (hq : J[k].queue ≠ (q : Int)) : rowC J (k + 1) q = rowC J k q := by
  unfold rowC
  apply List.map_congr_left
  intro p hp
  rw [List.mem_range] at hp
  rw [qCnt, List.getElem?_eq_getElem h]
  have : jobAt J[k] ≠ q * 5 + p := by unfold jobAt; omega
  simp [this]
theorem rowC_step (J : List JB) (k q p : Nat) (h : k < J.length) (hp : J[k].phase = (p : Int)) (hp1 : p < 5) (hq : J[k].queue = (q : Int)) : rowC J (k + 1) q = (rowC J k q).set p (.int .i64 (qCnt J k (q * 5 + p) + 1)) := by
  unfold rowC
  apply List.ext_getElem
  · simp
  intro i h1 h2
  rw [List.getElem_set]
  simp only [List.getElem_map, List.getElem_range]
  rw [qCnt, List.getElem?_eq_getElem h]
  have hj : jobAt J[k] = q * 5 + p := by unfold jobAt; omega
  by_cases e : p = i
  · subst e; simp [hj]
  · have : ¬ (jobAt J[k] = q * 5 + i) := by omega
    simp [e, this]
theorem behK_cnt (s : STA) : ∀ k, ((behK s k).length : Int) = cntP (behB s) s.N k
  | 0 => rfl
  | k + 1 => by
    have := behK_cnt s k
    rw [behK, cntP, List.length_append, Int.natCast_add, this]
    cases s.N[k]? with
    | none => simp
    | some x => by_cases h : behB s x = true <;> simp [h]
theorem cntP_sub {p q : ND → Bool} (h : ∀ x, p x = true → q x = true) (N : List ND) : ∀ k, cntP p N k ≤ cntP q N k
  | 0 => Int.le_refl _
  | k + 1 => by
    have := cntP_sub h N k
    rw [cntP, cntP]
    cases N[k]? with
    | none => simpa using this
    | some x =>
      by_cases h1 : p x = true
      · simp only [h1, h x h1, if_true]; omega
      · by_cases h2 : q x = true <;> simp only [h1, h2, if_true, if_false, Bool.false_eq_true] <;> omega
def rdK (s : STA) (k : Nat) : DI := ⟨cntP (·.up) s.N k, cntP (·.cordon) s.N k, cntP (·.moving) s.N k, cntP (behB s) s.N k, cntP (·.free) s.N k, 0, 0⟩
set_option maxRecDepth 10000 in
set_option maxHeartbeats 12800000 in
theorem rDialOf (c : CF) (s : STA) (now : Int) (w : World) (n : Nat) (hn1 : 1 ≤ n) (hn3 : n ≤ 3) (hs : s.At w) (hnn : s.nn ≤ 1000000) (hjn : s.jn ≤ 1000000) (h0 : 0 ≤ now) (h1 : now ≤ 1000000) (hc : ∀ j ∈ s.J, j.calm ∧ 0 ≤ j.queue ∧ j.queue < n ∧ 0 ≤ j.phase ∧ j.phase ≤ 4) :
    Calls Tryd.prog 10 #[.agg #[.int .i64 c.nodes, .int .i64 (n : Int), .int .i64 c.quota, .int .i64 c.wave, .int .i64 c.lease, .int .i64 c.retry, .int .i64 c.deadline, .int .i64 c.room, .int .i64 c.disk], .agg #[.slice s.na s.nn s.nc, .slice s.ja s.jn s.jc, .int .i64 s.goal, .int .i64 s.prior, .int .i64 s.mode, .int .i64 s.term], .int .i64 now] w fun e w' => ∃ a q, e = .returned (.agg (DI.cs (dialD s now) (.slice a n q)).toArray) ∧ St w w' [ownT eQ (.slice a n q) (qRows s.J n)] := by
  have S4 : St w _ [cellsT w.heap.size 23 (#[.int .i64 c.nodes, .int .i64 (n : Int), .int .i64 c.quota, .int .i64 c.wave, .int .i64 c.lease, .int .i64 c.retry, .int .i64 c.deadline, .int .i64 c.room, .int .i64 c.disk] : Array Value).toList, cellsT (w.heap.size + 1) 27 s.cs, cellsT (w.heap.size + 1 + 1) 34 (#[.int .i64 0, .int .i64 0, .int .i64 0, .int .i64 0, .int .i64 0, .slice none 0 0, .int .i64 0, .int .i64 0] : Array Value).toList, cellsT (w.heap.size + 1 + 1 + 1) 34 (#[.int .i64 0, .int .i64 0, .int .i64 0, .int .i64 0, .int .i64 0, .slice none 0 0, .int .i64 0, .int .i64 0] : Array Value).toList] := ((((St.start w).newAt 23 #[.int .i64 c.nodes, .int .i64 (n : Int), .int .i64 c.quota, .int .i64 c.wave, .int .i64 c.lease, .int .i64 c.retry, .int .i64 c.deadline, .int .i64 c.room, .int .i64 c.disk] w.heap.size rfl).newAt 27 #[.slice s.na s.nn s.nc, .slice s.ja s.jn s.jc, .int .i64 s.goal, .int .i64 s.prior, .int .i64 s.mode, .int .i64 s.term] (w.heap.size + 1) (alloc_size _ _)).newAt 34 #[.int .i64 0, .int .i64 0, .int .i64 0, .int .i64 0, .int .i64 0, .slice none 0 0, .int .i64 0, .int .i64 0] (w.heap.size + 1 + 1) (by simp only [alloc_size])).newAt 34 #[.int .i64 0, .int .i64 0, .int .i64 0, .int .i64 0, .int .i64 0, .slice none 0 0, .int .i64 0, .int .i64 0] (w.heap.size + 1 + 1 + 1) (by simp only [alloc_size])
  have HS := hid hs
  have HC := hid hc
  clear hs hc
  go_enter Tryd.func10, Tryd.ntmps10
  go_wp2_with fail
  generalize w.heap.size + 1 + 1 + 1 = g7 at *
  generalize w.heap.size + 1 + 1 = g6 at *
  generalize w.heap.size + 1 = g2 at *
  generalize w.heap.size = g1 at S4 ⊢
  generalize (((w.alloc _).alloc _).alloc _).alloc _ = w3 at *
  go_loopw [8, 9] (fun r i wr => ∃ (k : Nat), k ≤ s.nn ∧ r = .int .i64 (cntP (rightN s) s.N k) ∧ i = .int .i64 k ∧ St w wr [cellsT g1 23 (#[.int .i64 c.nodes, .int .i64 (n : Int), .int .i64 c.quota, .int .i64 c.wave, .int .i64 c.lease, .int .i64 c.retry, .int .i64 c.deadline, .int .i64 c.room, .int .i64 c.disk] : Array Value).toList, cellsT g2 27 s.cs, cellsT g6 34 (#[.int .i64 0, .int .i64 0, .int .i64 0, .int .i64 0, .int .i64 0, .slice none 0 0, .int .i64 0, .int .i64 0] : Array Value).toList, cellsT g7 34 (DI.cs (rdK s k) (.slice none 0 0))]) (fun _ i _ => s.nn - (intOf i).toNat)
  case atStart => exact ⟨0, Nat.zero_le _, rfl, rfl, S4⟩
  case round =>
    obtain ⟨k, hk, rfl, rfl, Sk⟩ := hrel
    clear S4
    obtain ⟨z0, z1, z2, z3, z4, z5⟩ := Sk.sC 1 rfl
    by_cases hlt : k < s.nn
    case neg =>
      have gg1 : decide ((k : Int) < (s.nn : Int)) = false := decide_eq_false (by omega)
      have gg1n : decide (k < s.nn) = false := decide_eq_false hlt
      have hkn : Hid (k = s.nn) := by rw [Hid]; omega
      have HD : Hid (dialD s now = ⟨cntP (·.up) s.N k, cntP (·.cordon) s.N k, cntP (·.moving) s.N k, cntP (behB s) s.N k, cntP (·.free) s.N k, endK s now s.jn, shareP (cntP (rightN s) s.N k) (cntP (·.up) s.N k)⟩) := by rw [Hid, dialD, ← hkn.out, behK_cnt]
      obtain ⟨b1, b1'⟩ := cntP_le (·.up) s.N k
      obtain ⟨b5, b5'⟩ := cntP_le (rightN s) s.N k
      have hRU : cntP (rightN s) s.N k ≤ cntP (·.up) s.N k := cntP_sub (fun x h => by unfold rightN at h; rw [Bool.and_eq_true] at h; exact h.1) _ _
      unfold rdK at Sk
      generalize cntP (·.up) s.N k = cU at *
      generalize cntP (·.cordon) s.N k = cC at *
      generalize cntP (·.moving) s.N k = cM at *
      generalize cntP (·.free) s.N k = cF at *
      generalize cntP (behB s) s.N k = cB at *
      generalize cntP (rightN s) s.N k = cR at *
      obtain ⟨shr, hshr⟩ : ∃ shr, shareP cR cU = shr := ⟨_, rfl⟩
      rw [hshr] at HD
      have HSh : Hid ((0 < cU → 0 ≤ shr ∧ shr ≤ 100 ∧ ∀ t : Int, (cR * 100 < t * cU ↔ shr < t)) ∧ (¬ 0 < cU → shr = 100)) := by
        rw [Hid, ← hshr]
        unfold shareP
        refine ⟨fun h => ?_, fun h => by rw [if_neg h]⟩
        rw [if_pos h]
        refine ⟨Int.ediv_nonneg (by omega) (by omega), ?_, fun t => ?_⟩
        · have : cR * 100 / cU ≤ cU * 100 / cU := Int.ediv_le_ediv h (by omega)
          rw [Int.mul_ediv_cancel_left _ (by omega)] at this
          exact this
        · exact (Int.ediv_lt_iff_lt_mul h).symm
      clear hshr
      have hwm : IntKind.i64.wrap (cR * 100) = cR * 100 := by rw [IntKind.wrap_i64]; omega
      have HDD := HD
      go_upto_region 19 with fail
      clear z0 z1 z2 z3 z4 z5
      have q7 := Sk.cell 3 rfl 7 rfl
      have f7 := Sk.frozen 3 rfl 7
      have S9 := Sk.setCell 3 rfl 7 (.int .i64 100)
      go_cut [] from 66 to 66 (fun wc => St w wc [cellsT g1 23 (#[.int .i64 c.nodes, .int .i64 (n : Int), .int .i64 c.quota, .int .i64 c.wave, .int .i64 c.lease, .int .i64 c.retry, .int .i64 c.deadline, .int .i64 c.room, .int .i64 c.disk] : Array Value).toList, cellsT g2 27 s.cs, cellsT g6 34 (#[.int .i64 0, .int .i64 0, .int .i64 0, .int .i64 0, .int .i64 0, .slice none 0 0, .int .i64 0, .int .i64 0] : Array Value).toList, cellsT g7 34 (DI.cs ⟨cU, cC, cM, cB, cF, 0, (100 : Int)⟩ (.slice none 0 0))])
      case first =>
        go_wp2_with fail
        go_meet
        exact S9
      case rest =>
      clear q7 f7 Sk S9
      have S9 := hcut
      clear hcut
      go_step
      go_step
      go_cut [] from 67 to 83 (fun wc => St w wc [cellsT g1 23 (#[.int .i64 c.nodes, .int .i64 (n : Int), .int .i64 c.quota, .int .i64 c.wave, .int .i64 c.lease, .int .i64 c.retry, .int .i64 c.deadline, .int .i64 c.room, .int .i64 c.disk] : Array Value).toList, cellsT g2 27 s.cs, cellsT g6 34 (#[.int .i64 0, .int .i64 0, .int .i64 0, .int .i64 0, .int .i64 0, .slice none 0 0, .int .i64 0, .int .i64 0] : Array Value).toList, cellsT g7 34 (DI.cs ⟨cU, cC, cM, cB, cF, 0, shr⟩ (.slice none 0 0))])
      case first =>
        go_wp2_with fail
        go_loopg [] 101 (fun m wr => ∃ sh : Nat, m = sh + 1 ∧ (0 < cU → shr ≤ sh) ∧ (cU ≤ 0 → sh = 100) ∧ sh ≤ 100 ∧ St w wr [cellsT g1 23 (#[.int .i64 c.nodes, .int .i64 (n : Int), .int .i64 c.quota, .int .i64 c.wave, .int .i64 c.lease, .int .i64 c.retry, .int .i64 c.deadline, .int .i64 c.room, .int .i64 c.disk] : Array Value).toList, cellsT g2 27 s.cs, cellsT g6 34 (#[.int .i64 0, .int .i64 0, .int .i64 0, .int .i64 0, .int .i64 0, .slice none 0 0, .int .i64 0, .int .i64 0] : Array Value).toList, cellsT g7 34 (DI.cs ⟨cU, cC, cM, cB, cF, 0, (sh : Int)⟩ (.slice none 0 0))])
        case atStart => exact ⟨100, rfl, fun h => (HSh.out.1 h).2.1, fun _ => rfl, by omega, S9⟩
        case round =>
          obtain ⟨sh, rfl, i1, i2, i3, Sr⟩ := hrel
          clear S9
          have c0 := Sr.cell 3 rfl 0 rfl
          have c7 := Sr.cell 3 rfl 7 rfl
          by_cases hu : 0 < cU
          case neg =>
            have d1 : decide (0 < cU) = false := decide_eq_false hu
            have e1 : Hid ((sh : Int) = shr) := by have := i2 (by omega); have := HSh.out.2 (by omega); rw [Hid]; omega
            clear i1 i2 hu
            go_wp2_with fail
            go_meet
            rw [← e1.out]
            exact Sr
          have d1 : decide (0 < cU) = true := decide_eq_true hu
          have hm0 : 0 ≤ (sh : Int) * cU := Int.mul_nonneg (by omega) (by omega)
          have hm1 : (sh : Int) * cU ≤ 100 * cU := Int.mul_le_mul_of_nonneg_right (by omega) (by omega)
          have hws : IntKind.i64.wrap ((sh : Int) * cU) = (sh : Int) * cU := by rw [IntKind.wrap_i64]; omega
          have hlt2 := (HSh.out.1 hu).2.2 (sh : Int)
          have hge := i1 hu
          have h00 := (HSh.out.1 hu).1
          by_cases hl : cR * 100 < (sh : Int) * cU
          case neg =>
            have d2 : decide (cR * 100 < (sh : Int) * cU) = false := decide_eq_false hl
            have e1 : Hid ((sh : Int) = shr) := by rw [Hid]; have : ¬ shr < sh := fun h => hl (hlt2.2 h); omega
            clear i1 i2 hu hlt2 hl hm0 hm1 hge h00
            go_wp2_with fail
            go_meet
            rw [← e1.out]
            exact Sr
          have d2 : decide (cR * 100 < (sh : Int) * cU) = true := decide_eq_true hl
          have hl2 : shr < sh := hlt2.1 hl
          have hw2 : IntKind.i64.wrap ((sh : Int) - 1) = ((sh - 1 : Nat) : Int) := by rw [IntKind.wrap_i64]; omega
          have f7 := Sr.frozen 3 rfl 7
          have S9 := Sr.setCell 3 rfl 7 (.int .i64 ((sh - 1 : Nat) : Int))
          clear hl hlt2
          go_wp2_with fail
          go_roundg sh
          case measure => omega
          case rel => exact ⟨sh - 1, by omega, fun _ => by omega, fun h => absurd hu (by omega), by omega, S9⟩
      case rest =>
      have S9 := hcut
      clear hcut hwm HSh b1 b1' b5 b5' hRU
      have q6 := S9.cell 3 rfl 6 rfl
      have f6 := S9.frozen 3 rfl 6
      have SE := S9.setCell 3 rfl 6 (.int .i64 now)
      go_wp2_with fail
      clear q6 f6 S9
      generalize World.setCell _ _ _ = w10 at *
      go_loopw [11] (fun i wr => ∃ (q : Nat) (a : Option Addr) (ca : Nat), q ≤ n ∧ i = .int .i64 q ∧ St w wr [cellsT g1 23 (#[.int .i64 c.nodes, .int .i64 (n : Int), .int .i64 c.quota, .int .i64 c.wave, .int .i64 c.lease, .int .i64 c.retry, .int .i64 c.deadline, .int .i64 c.room, .int .i64 c.disk] : Array Value).toList, cellsT g2 27 s.cs, cellsT g6 34 (#[.int .i64 0, .int .i64 0, .int .i64 0, .int .i64 0, .int .i64 0, .slice none 0 0, .int .i64 0, .int .i64 0] : Array Value).toList, cellsT g7 34 (DI.cs ⟨cU, cC, cM, cB, cF, now, shr⟩ (.slice a q ca)), ownT eQ (.slice a q ca) ((List.range q).map (qRow s.J s.J.length))]) (fun i _ => n - (intOf i).toNat)
      case atStart => exact ⟨0, none, 0, Nat.zero_le _, rfl, SE.nilG eQ⟩
      case round =>
        obtain ⟨q, a, ca, hq, rfl, Sq⟩ := hrel
        clear SE
        have cQ := Sq.cell 0 rfl 1 rfl
        by_cases hqn : q < n
        case neg =>
          have d1 : decide ((q : Int) < (n : Int)) = false := decide_eq_false (by omega)
          have d1n : decide (q < n) = false := decide_eq_false hqn
          have hqe : Hid (q = n) := by rw [Hid]; omega
          go_wp2_with fail
          clear cQ
          go_loopw [14] (fun i wr => ∃ k : Nat, k ≤ s.jn ∧ i = .int .i64 ((k : Int) + 1) ∧ St w wr [cellsT g1 23 (#[.int .i64 c.nodes, .int .i64 (n : Int), .int .i64 c.quota, .int .i64 c.wave, .int .i64 c.lease, .int .i64 c.retry, .int .i64 c.deadline, .int .i64 c.room, .int .i64 c.disk] : Array Value).toList, cellsT g2 27 s.cs, cellsT g6 34 (#[.int .i64 0, .int .i64 0, .int .i64 0, .int .i64 0, .int .i64 0, .slice none 0 0, .int .i64 0, .int .i64 0] : Array Value).toList, cellsT g7 34 (DI.cs ⟨cU, cC, cM, cB, cF, endK s now k, shr⟩ (.slice a q ca)), ownT eQ (.slice a q ca) ((List.range q).map (qRow s.J s.J.length))]) (fun i _ => s.jn + 1 - (intOf i).toNat)
          case atStart => exact ⟨0, Nat.zero_le _, rfl, Sq⟩
          case round =>
            obtain ⟨k2, hk2, rfl, Sk2⟩ := hrel
            clear Sq
            by_cases hl3 : k2 < s.jn
            case neg =>
              have d3 : decide ((k2 : Int) + 1 ≤ (s.jn : Int)) = false := decide_eq_false (by omega)
              have d3n : decide (k2 + 1 ≤ s.jn) = false := decide_eq_false (by omega)
              have d3m : decide (k2 < s.jn) = false := decide_eq_false hl3
              have HD2 : Hid (dialD s now = ⟨cU, cC, cM, cB, cF, endK s now k2, shr⟩) := by rw [show k2 = s.jn by omega]; exact HDD
              generalize endK s now k2 = ek at *
              have S9 := Sk2
              obtain ⟨y0, y1, y2, y3, y4, y5, y6, y7⟩ := And.intro (S9.cell 3 rfl 0 rfl) (And.intro (S9.cell 3 rfl 1 rfl) (And.intro (S9.cell 3 rfl 2 rfl) (And.intro (S9.cell 3 rfl 3 rfl) (And.intro (S9.cell 3 rfl 4 rfl) (And.intro (S9.cell 3 rfl 5 rfl) (And.intro (S9.cell 3 rfl 6 rfl) (S9.cell 3 rfl 7 rfl)))))))
              obtain ⟨z0, z1, z2, z3, z4, z5, z6, z7⟩ := And.intro (S9.cell 2 rfl 0 rfl) (And.intro (S9.cell 2 rfl 1 rfl) (And.intro (S9.cell 2 rfl 2 rfl) (And.intro (S9.cell 2 rfl 3 rfl) (And.intro (S9.cell 2 rfl 4 rfl) (And.intro (S9.cell 2 rfl 5 rfl) (And.intro (S9.cell 2 rfl 6 rfl) (S9.cell 2 rfl 7 rfl)))))))
              obtain ⟨f0, f1, f2, f3, f4, f5, f6, f7⟩ := And.intro (S9.frozen 2 rfl 0) (And.intro (S9.frozen 2 rfl 1) (And.intro (S9.frozen 2 rfl 2) (And.intro (S9.frozen 2 rfl 3) (And.intro (S9.frozen 2 rfl 4) (And.intro (S9.frozen 2 rfl 5) (And.intro (S9.frozen 2 rfl 6) (S9.frozen 2 rfl 7)))))))
              have c1 := (S9.sC 1 rfl).2.1
              have SX := ((((((((S9.setCell 2 rfl 0 (.int .i64 cU)).setCell 2 rfl 1 (.int .i64 cC)).setCell 2 rfl 2 (.int .i64 cM)).setCell 2 rfl 3 (.int .i64 cB)).setCell 2 rfl 4 (.int .i64 cF)).setCell 2 rfl 5 (.slice a q ca)).setCell 2 rfl 6 (.int .i64 ek)).setCell 2 rfl 7 (.int .i64 shr))
              clear Sk2
              go_wp2
              refine bodyPost_ret (res_dial rfl _ _ g6 _ rfl (by exact SX.heap 2 rfl) rfl) rfl ?_
              obtain rfl : q = n := hqe.out
              refine ⟨a, ca, ?_, ?_⟩
              · rw [HD2.out]; rfl
              · exact (SX.front 4 rfl).take 1
            have d3 : decide ((k2 : Int) + 1 ≤ (s.jn : Int)) = true := decide_eq_true (by omega)
            have d3n : decide (k2 + 1 ≤ s.jn) = true := decide_eq_true (by omega)
            have d3m : decide (k2 < s.jn) = true := decide_eq_true hl3
            have HE : Hid (endK s now (k2 + 1) = max (endK s now k2) (endS s ((k2 : Int) + 1) now)) := rfl
            obtain ⟨z0, z1, z2, z3, z4, z5⟩ := Sk2.sC 1 rfl
            go_wp2_with fail
            clear z0 z1 z2 z3 z4 z5
            refine (r16End s k2 now _ (HS.out.all Sk2.fin) hl3 h0 h1 (fun j hj => (HC.out j hj).1) hjn).mono ?_
            rintro e w7 ⟨rfl, hb7⟩
            have S7 := Sk2.grow hb7
            clear hb7 Sk2
            generalize endK s now k2 = ek at *
            generalize endS s ((k2 : Int) + 1) now = es at *
            have c6 := S7.cell 3 rfl 6 rfl
            have f6 := S7.frozen 3 rfl 6
            have S8 := S7.setCell 3 rfl 6 (.int .i64 es)
            have hwk : IntKind.i64.wrap ((k2 : Int) + 1 + 1) = (k2 : Int) + 1 + 1 := by rw [IntKind.wrap_i64]; omega
            by_cases hgt : ek < es
            · have d4 : decide (ek < es) = true := decide_eq_true hgt
              have HE2 : Hid (endK s now (k2 + 1) = es) := by rw [Hid, HE.out]; omega
              clear hgt
              go_wp2
              go_roundw
              case rel => exact ⟨k2 + 1, by omega, by go_num, by rw [HE2.out]; exact S8⟩
              case measure => simp [intOf]; omega
            · have d4 : decide (ek < es) = false := decide_eq_false hgt
              have HE2 : Hid (endK s now (k2 + 1) = ek) := by rw [Hid, HE.out]; omega
              clear hgt S8
              go_wp2
              go_roundw
              case rel => exact ⟨k2 + 1, by omega, by go_num, by rw [HE2.out]; exact S7⟩
              case measure => simp [intOf]; omega
        have d1 : decide ((q : Int) < (n : Int)) = true := decide_eq_true (by omega)
        have d1n : decide (q < n) = true := decide_eq_true hqn
        have SZ : St w _ [cellsT g1 23 (#[.int .i64 c.nodes, .int .i64 (n : Int), .int .i64 c.quota, .int .i64 c.wave, .int .i64 c.lease, .int .i64 c.retry, .int .i64 c.deadline, .int .i64 c.room, .int .i64 c.disk] : Array Value).toList, cellsT g2 27 s.cs, cellsT g6 34 (#[.int .i64 0, .int .i64 0, .int .i64 0, .int .i64 0, .int .i64 0, .slice none 0 0, .int .i64 0, .int .i64 0] : Array Value).toList, cellsT g7 34 (DI.cs ⟨cU, cC, cM, cB, cF, now, shr⟩ (.slice a q ca)), ownT eQ (.slice a q ca) ((List.range q).map (qRow s.J s.J.length)), cellsT wr.heap.size 37 (rowC s.J 0 q)] := Sq.newAt 37 #[.int .i64 0, .int .i64 0, .int .i64 0, .int .i64 0, .int .i64 0] wr.heap.size rfl
        go_wp2_with fail
        generalize wr.heap.size = gr at *
        generalize wr.alloc _ = wz at *
        clear cQ Sq
        go_loopw [13] (fun i wr => ∃ k : Nat, k ≤ s.jn ∧ i = .int .i64 k ∧ St w wr [cellsT g1 23 (#[.int .i64 c.nodes, .int .i64 (n : Int), .int .i64 c.quota, .int .i64 c.wave, .int .i64 c.lease, .int .i64 c.retry, .int .i64 c.deadline, .int .i64 c.room, .int .i64 c.disk] : Array Value).toList, cellsT g2 27 s.cs, cellsT g6 34 (#[.int .i64 0, .int .i64 0, .int .i64 0, .int .i64 0, .int .i64 0, .slice none 0 0, .int .i64 0, .int .i64 0] : Array Value).toList, cellsT g7 34 (DI.cs ⟨cU, cC, cM, cB, cF, now, shr⟩ (.slice a q ca)), ownT eQ (.slice a q ca) ((List.range q).map (qRow s.J s.J.length)), cellsT gr 37 (rowC s.J k q)]) (fun i _ => s.jn - (intOf i).toNat)
        case atStart => exact ⟨0, Nat.zero_le _, rfl, SZ⟩
        case round =>
          obtain ⟨k2, hk2, rfl, Sj⟩ := hrel
          clear SZ
          obtain ⟨z0, z1, z2, z3, z4, z5⟩ := Sj.sC 1 rfl
          by_cases hl3 : k2 < s.jn
          case neg =>
            have d3 : decide ((k2 : Int) < (s.jn : Int)) = false := decide_eq_false (by omega)
            have d3n : decide (k2 < s.jn) = false := decide_eq_false hl3
            have hkJ : Hid (k2 = s.J.length) := by rw [Hid, HS.out.jn]; omega
            have Sr : St w wr [cellsT g1 23 (#[.int .i64 c.nodes, .int .i64 (n : Int), .int .i64 c.quota, .int .i64 c.wave, .int .i64 c.lease, .int .i64 c.retry, .int .i64 c.deadline, .int .i64 c.room, .int .i64 c.disk] : Array Value).toList, cellsT g2 27 s.cs, cellsT g6 34 (#[.int .i64 0, .int .i64 0, .int .i64 0, .int .i64 0, .int .i64 0, .slice none 0 0, .int .i64 0, .int .i64 0] : Array Value).toList, cellsT g7 34 (DI.cs ⟨cU, cC, cM, cB, cF, now, shr⟩ (.slice a q ca)), ownT eQ (.slice a q ca) ((List.range q).map (qRow s.J s.J.length)), cellsT gr 37 (qRow s.J k2 q).cs] := Sj
            clear Sj
            have HL : Hid (((List.range q).map (qRow s.J s.J.length)).length + 1 = q + 1) := by simp [Hid]
            have HR : Hid ((List.range (q + 1)).map (qRow s.J s.J.length) = (List.range q).map (qRow s.J s.J.length) ++ [qRow s.J k2 q]) := by rw [Hid, List.range_succ, List.map_append, hkJ.out]; rfl
            generalize (List.range q).map (qRow s.J s.J.length) = R at *
            generalize qRow s.J k2 q = rq at *
            obtain ⟨x0, x1, x2, x3, x4⟩ := And.intro (Sr.cell 5 rfl 0 rfl) (And.intro (Sr.cell 5 rfl 1 rfl) (And.intro (Sr.cell 5 rfl 2 rfl) (And.intro (Sr.cell 5 rfl 3 rfl) (Sr.cell 5 rfl 4 rfl))))
            have c5 := Sr.cell 3 rfl 5 rfl
            clear z0 z2 z3 z4 z5
            go_wp2_with (at_builtin; refine wpList_app (by rfl) (.tmp 118) (.tmp 120) eQ.T eQ.T eQ.T rfl rfl _ _ rfl rfl (Sr.appG1 eQok wr.heap.size rfl 4 rfl rq _ (by rfl) (q + 1) HL.out (by show _ * 40 ≤ _; omega) (by unfold maxLen; omega)) ?_; rintro v7 w7 ⟨⟨a7, c7, rfl⟩, S7⟩; have f5 := S7.frozen 3 rfl 5; have c5b := S7.cell 3 rfl 5 rfl; have S8 := S7.setCell 3 rfl 5 (.slice a7 (q + 1) c7))
            go_roundw
            case rel => exact ⟨q + 1, a7, c7, by omega, by go_num, by rw [HR.out]; exact S8.take 5⟩
            case measure => simp [intOf]; omega
          have d3 : decide ((k2 : Int) < (s.jn : Int)) = true := decide_eq_true (by omega)
          have d3n : decide (k2 < s.jn) = true := decide_eq_true hl3
          have hkl : k2 < s.J.length := by rw [HS.out.jn]; exact hl3
          have i0 := fun wx => idxJB s.ja s.jn s.jc (fun h => HS.out.j.ok (by rw [HS.out.jn]; exact h)) k2 (k2 : Int) rfl hl3 wx
          obtain ⟨x0, x1, x2, x3, x4, x5, x6, x7, x8, x9, x10, x11⟩ := (HS.out.j.all eJBok Sj.fin).jbAt hkl
          obtain ⟨-, hj0, hj1, hj2, hj3⟩ := HC.out _ (List.getElem_mem hkl)
          have HA : Hid (s.J[k2].queue ≠ (q : Int) → rowC s.J (k2 + 1) q = rowC s.J k2 q) := fun h => rowC_same s.J k2 q hkl hj2 hj3 hj0 h
          have HB : Hid (∀ p : Nat, s.J[k2].phase = (p : Int) → p < 5 → s.J[k2].queue = (q : Int) → rowC s.J (k2 + 1) q = (rowC s.J k2 q).set p (.int .i64 (qCnt s.J k2 (q * 5 + p) + 1))) := fun p h1 h2 h3 => rowC_step s.J k2 q p hkl h1 h2 h3
          generalize s.J[k2] = j at *
          generalize adr s.ja (k2 * 12) = A at *
          obtain ⟨pp, hpp⟩ : ∃ pp : Nat, j.phase = pp := ⟨j.phase.toNat, by omega⟩
          have hp5 : pp < 5 := by omega
          have HP := hid hpp
          have hwk : IntKind.i64.wrap ((k2 : Int) + 1) = (k2 : Int) + 1 := by rw [IntKind.wrap_i64]; omega
          clear hpp hj0 hj1 hj2 hj3 x1 x2 x3 x4 x5 x7 x8 x9 x10 x11 z0 z2 z3 z4 z5
          by_cases hqq : j.queue = (q : Int)
          case neg =>
            have HA2 := hid (HA.out hqq)
            have d4 : (j.queue == (q : Int)) = false := by simpa using hqq
            clear hqq HA HB
            go_wp2
            go_roundw
            case rel => exact ⟨k2 + 1, by omega, by go_num, by rw [HA2.out]; exact Sj⟩
            case measure => simp [intOf]; omega
          have HB2 := hid (HB.out pp HP.out hp5 hqq)
          have d4 : (j.queue == (q : Int)) = true := by simpa using hqq
          have hcl := qCnt_le s.J (q * 5 + pp) k2
          have HCell : Hid ((rowC s.J k2 q)[pp]? = some (.int .i64 (qCnt s.J k2 (q * 5 + pp)))) := by
            unfold rowC
            rw [Hid, List.getElem?_map, List.getElem?_range hp5]
            rfl
          clear hqq HA HB
          generalize qCnt s.J k2 (q * 5 + pp) = cq at *
          have i7 := fun wx => idxP gr 0 pp j.phase HP.out hp5 wx
          simp only [Nat.zero_add] at i7
          have hw7 : IntKind.i64.wrap (cq + 1) = cq + 1 := by rw [IntKind.wrap_i64]; omega
          have c9 := Sj.cell 5 rfl pp HCell.out
          have f9 := Sj.frozen 5 rfl pp
          have S9 := Sj.setCell 5 rfl pp (.int .i64 (cq + 1))
          rw [← HB2.out] at S9
          clear HCell HB2
          go_wp2
          go_roundw
          case rel => exact ⟨k2 + 1, by omega, by go_num, S9⟩
          case measure => simp [intOf]; omega
    have g0 : decide ((k : Int) < (s.nn : Int)) = true := decide_eq_true (by omega)
    have g0n : decide (k < s.nn) = true := decide_eq_true hlt
    have hkl : k < s.N.length := by rw [HS.out.nn]; exact hlt
    have i0 := fun wx => idxND s.na s.nn s.nc (fun h => HS.out.n.ok (by rw [HS.out.nn]; exact h)) k hlt wx
    obtain ⟨y0, y1, y2, y3, y4⟩ := (HS.out.n.all eNDok Sk.fin).ndAt hkl
    have E1 : Hid (cntP (·.up) s.N (k + 1) = cntP (·.up) s.N k + bI s.N[k].up) := cntP_step _ _ _ hkl
    have E2 : Hid (cntP (·.cordon) s.N (k + 1) = cntP (·.cordon) s.N k + bI s.N[k].cordon) := cntP_step _ _ _ hkl
    have E3 : Hid (cntP (·.moving) s.N (k + 1) = cntP (·.moving) s.N k + bI s.N[k].moving) := cntP_step _ _ _ hkl
    have E4 : Hid (cntP (·.free) s.N (k + 1) = cntP (·.free) s.N k + bI s.N[k].free) := cntP_step _ _ _ hkl
    have E5 : Hid (cntP (rightN s) s.N (k + 1) = cntP (rightN s) s.N k + bI (rightN s s.N[k])) := cntP_step _ _ _ hkl
    have E6 : Hid (cntP (behB s) s.N (k + 1) = cntP (behB s) s.N k + bI (behB s s.N[k])) := cntP_step _ _ _ hkl
    obtain ⟨b1, b1'⟩ := cntP_le (·.up) s.N k
    obtain ⟨b2, b2'⟩ := cntP_le (·.cordon) s.N k
    obtain ⟨b3, b3'⟩ := cntP_le (·.moving) s.N k
    obtain ⟨b4, b4'⟩ := cntP_le (·.free) s.N k
    obtain ⟨b5, b5'⟩ := cntP_le (rightN s) s.N k
    obtain ⟨b6, b6'⟩ := cntP_le (behB s) s.N k
    have HD : Hid (rdK s (k + 1) = ⟨cntP (·.up) s.N (k + 1), cntP (·.cordon) s.N (k + 1), cntP (·.moving) s.N (k + 1), cntP (behB s) s.N (k + 1), cntP (·.free) s.N (k + 1), 0, 0⟩) := rfl
    have HBc := fun (wx : World) (h : s.At wx) => r17Behind s k wx h hlt hkl
    unfold rdK at Sk
    rw [E1.out, E2.out, E3.out, E4.out, E6.out] at HD
    generalize s.N[k] = x at *
    generalize adr s.na (k * 5) = A at *
    generalize cntP (·.up) s.N k = cU at *
    generalize cntP (·.cordon) s.N k = cC at *
    generalize cntP (·.moving) s.N k = cM at *
    generalize cntP (·.free) s.N k = cF at *
    generalize cntP (rightN s) s.N k = cR at *
    generalize cntP (behB s) s.N k = cB at *
    have HBC := hid HBc
    clear E1 E2 E3 E4 E6 HBc
    have S5 : St w _ [cellsT g1 23 (#[.int .i64 c.nodes, .int .i64 (n : Int), .int .i64 c.quota, .int .i64 c.wave, .int .i64 c.lease, .int .i64 c.retry, .int .i64 c.deadline, .int .i64 c.room, .int .i64 c.disk] : Array Value).toList, cellsT g2 27 s.cs, cellsT g6 34 (#[.int .i64 0, .int .i64 0, .int .i64 0, .int .i64 0, .int .i64 0, .slice none 0 0, .int .i64 0, .int .i64 0] : Array Value).toList, cellsT g7 34 (DI.cs ⟨cU, cC, cM, cB, cF, 0, 0⟩ (.slice none 0 0)), cellsT wr.heap.size 39 x.cs] := Sk.newAt 39 #[.bool x.up, .bool x.cordon, .bool x.moving, .int .i64 x.version, .int .i64 x.job] wr.heap.size rfl
    go_upto_if 29 with fail
    generalize wr.heap.size = gn at *
    generalize wr.alloc _ = w5 at *
    clear y0 y1 y2 y3 y4 i0 Sk z0 z1 z2 z3 z4 z5
    have hwU : IntKind.i64.wrap (cU + 1) = cU + 1 := by rw [IntKind.wrap_i64]; omega
    have hwC : IntKind.i64.wrap (cC + 1) = cC + 1 := by rw [IntKind.wrap_i64]; omega
    have hwM : IntKind.i64.wrap (cM + 1) = cM + 1 := by rw [IntKind.wrap_i64]; omega
    have hwF : IntKind.i64.wrap (cF + 1) = cF + 1 := by rw [IntKind.wrap_i64]; omega
    have hwB : IntKind.i64.wrap (cB + 1) = cB + 1 := by rw [IntKind.wrap_i64]; omega
    have hwR : IntKind.i64.wrap (cR + 1) = cR + 1 := by rw [IntKind.wrap_i64]; omega
    go_cut [8] from 16 to 65 (fun s8 wc => s8 = .int .i64 (cR + bI (rightN s x)) ∧ St w wc [cellsT g1 23 (#[.int .i64 c.nodes, .int .i64 (n : Int), .int .i64 c.quota, .int .i64 c.wave, .int .i64 c.lease, .int .i64 c.retry, .int .i64 c.deadline, .int .i64 c.room, .int .i64 c.disk] : Array Value).toList, cellsT g2 27 s.cs, cellsT g6 34 (#[.int .i64 0, .int .i64 0, .int .i64 0, .int .i64 0, .int .i64 0, .slice none 0 0, .int .i64 0, .int .i64 0] : Array Value).toList, cellsT g7 34 (DI.cs (⟨cU + bI x.up, cC, cM, cB, cF, 0, 0⟩) (.slice none 0 0)), cellsT gn 39 x.cs])
    case first =>
      obtain ⟨u, cd, mv, vr, jb⟩ := x
      cases u
      case false =>
        go_wp2_with fail
        go_meet
        exact ⟨by simp [bI, rightN], by simp only [bI]; simp; exact S5⟩
      have c0 := S5.cell 3 rfl 0 rfl
      have f0 := S5.frozen 3 rfl 0
      have S6 := S5.setCell 3 rfl 0 (.int .i64 (cU + 1))
      go_wp2_with fail
      generalize World.setCell _ _ _ = w6 at *
      clear c0 f0 S5
      refine wp_region_held_drew (S := (fun w' => w'.cell? ⟨gn, 3, none⟩ = some (.int .i64 vr) ∧ (w'.cell? ⟨g2, 0, none⟩ = some (.slice s.na s.nn s.nc) ∧ w'.cell? ⟨g2, 1, none⟩ = some (.slice s.ja s.jn s.jc) ∧ w'.cell? ⟨g2, 2, none⟩ = some (.int .i64 s.goal) ∧ w'.cell? ⟨g2, 3, none⟩ = some (.int .i64 s.prior) ∧ w'.cell? ⟨g2, 4, none⟩ = some (.int .i64 s.mode) ∧ w'.cell? ⟨g2, 5, none⟩ = some (.int .i64 s.term)))) (by kernel_rfl) (by exact ⟨S6.drew.cell 4 rfl 3 rfl, S6.drew.sC 1 rfl⟩) (fun hHeld => ?_)
      change wpAnyH _ _ _ _ _ 5 (Array.replicate 5 false) _ _
      refine wpAnyH_take (i := 0) (v := ?v1) (ops_at rfl) (by kernel_rfl) (by kernel_rfl) (by kernel_rfl) (fun _ _ _ h => h) (Or.inl ⟨by rfl, ?hy1⟩) (by assumption) ?rest1
      case hy1 => intro w' hSw; (try dsimp only at hSw); go_simp; try with_reducible rfl
      try simp only [Act.put, List.setIfInBounds_toArray, List.set_cons_zero, List.set_cons_succ]
      refine wpAnyH_take (i := 1) (v := ?v2) (ops_at rfl) (by kernel_rfl) (by kernel_rfl) (by kernel_rfl) (fun _ _ _ h => h) (Or.inl ⟨by rfl, ?hy2⟩) (by assumption) ?rest2
      case hy2 => intro w' hSw; (try dsimp only at hSw); go_simp; try with_reducible rfl
      try simp only [Act.put, List.setIfInBounds_toArray, List.set_cons_zero, List.set_cons_succ]
      refine wpAnyH_take (i := 2) (v := ?v3) (ops_at rfl) (by kernel_rfl) (by kernel_rfl) (by kernel_rfl) (fun _ _ _ h => h) (Or.inl ⟨by rfl, ?hy3⟩) (by assumption) ?rest3
      case hy3 => intro w' hSw; (try dsimp only at hSw); go_simp; try with_reducible rfl
      try simp only [Act.put, List.setIfInBounds_toArray, List.set_cons_zero, List.set_cons_succ]
      refine wpAnyH_ready (rs := [3]) (by kernel_rfl) (by simp) ?_
      refine AllReadyH.cons (ops_at rfl) (fun K hK => ?_) AllReadyH.nil
      go_simp
      refine (r9Meant s _).mono ?_
      rintro e w7 ⟨rfl, hb7⟩
      have S7 := S6.drew.grow hb7
      refine hK.out _ _ (by exact ⟨S7.cell 4 rfl 3 rfl, S7.sC 1 rfl⟩) (fun hHeld => ?_)
      clear hK K
      try simp only [Act.put, List.setIfInBounds_toArray, List.set_cons_zero, List.set_cons_succ]
      refine wpAnyH_take (i := 4) (v := ?v5) (ops_at rfl) (by kernel_rfl) (by kernel_rfl) (by kernel_rfl) (fun _ _ _ h => h) (Or.inl ⟨by rfl, ?hy5⟩) (by assumption) ?rest5
      case hy5 => intro w' hSw; (try dsimp only at hSw); go_simp; try with_reducible rfl
      try simp only [Act.put, List.setIfInBounds_toArray, List.set_cons_zero, List.set_cons_succ]
      refine wpAnyH_done (by kernel_rfl) ?_ _
      generalize hpb : (vr == s.meant) = pb
      have HPb : Hid (rightN s ⟨true, cd, mv, vr, jb⟩ = pb) := by rw [Hid, ← hpb]; rfl
      clear hpb
      cases pb
      · go_wp2_with fail
        go_meet
        exact ⟨by rw [HPb.out]; simp [bI], S7⟩
      · go_wp2_with fail
        go_meet
        exact ⟨by rw [HPb.out]; simp [bI], S7⟩
    case rest =>
    obtain ⟨rfl, S6⟩ := hcut
    clear S5
    have c0 := S6.cell 4 rfl 1 rfl
    go_upto_if 42 with fail
    clear c0
    go_cut [] from 16 to 65 (fun wc => St w wc [cellsT g1 23 (#[.int .i64 c.nodes, .int .i64 (n : Int), .int .i64 c.quota, .int .i64 c.wave, .int .i64 c.lease, .int .i64 c.retry, .int .i64 c.deadline, .int .i64 c.room, .int .i64 c.disk] : Array Value).toList, cellsT g2 27 s.cs, cellsT g6 34 (#[.int .i64 0, .int .i64 0, .int .i64 0, .int .i64 0, .int .i64 0, .slice none 0 0, .int .i64 0, .int .i64 0] : Array Value).toList, cellsT g7 34 (DI.cs (⟨cU + bI x.up, cC + bI x.cordon, cM, cB, cF, 0, 0⟩) (.slice none 0 0)), cellsT gn 39 x.cs])
    case first =>
      generalize x.cordon = pb at *
      cases pb
      · go_wp2_with fail
        go_meet
        simp only [bI, Bool.false_eq_true, if_false, Int.add_zero]
        exact S6
      · have c0 := S6.cell 3 rfl 1 rfl
        have f0 := S6.frozen 3 rfl 1
        have S8 := S6.setCell 3 rfl 1 (.int .i64 (cC + 1))
        go_wp2_with fail
        go_meet
        simp only [bI, if_true]
        exact S8
    case rest =>
    have S7 := hcut
    clear hcut S6
    have c0 := S7.cell 4 rfl 2 rfl
    go_upto_if 48 with fail
    clear c0
    go_cut [] from 16 to 65 (fun wc => St w wc [cellsT g1 23 (#[.int .i64 c.nodes, .int .i64 (n : Int), .int .i64 c.quota, .int .i64 c.wave, .int .i64 c.lease, .int .i64 c.retry, .int .i64 c.deadline, .int .i64 c.room, .int .i64 c.disk] : Array Value).toList, cellsT g2 27 s.cs, cellsT g6 34 (#[.int .i64 0, .int .i64 0, .int .i64 0, .int .i64 0, .int .i64 0, .slice none 0 0, .int .i64 0, .int .i64 0] : Array Value).toList, cellsT g7 34 (DI.cs (⟨cU + bI x.up, cC + bI x.cordon, cM + bI x.moving, cB, cF, 0, 0⟩) (.slice none 0 0)), cellsT gn 39 x.cs])
    case first =>
      generalize x.moving = pb at *
      cases pb
      · go_wp2_with fail
        go_meet
        simp only [bI, Bool.false_eq_true, if_false, Int.add_zero]
        exact S7
      · have c0 := S7.cell 3 rfl 2 rfl
        have f0 := S7.frozen 3 rfl 2
        have S8 := S7.setCell 3 rfl 2 (.int .i64 (cM + 1))
        go_wp2_with fail
        go_meet
        simp only [bI, if_true]
        exact S8
    case rest =>
    have S9 := hcut
    clear hcut S7
    obtain ⟨z0, z1, z2, z3, z4, z5⟩ := S9.sC 1 rfl
    go_wp2_with fail
    clear z0 z1 z2 z3 z4 z5
    refine (HBC.out _ (HS.out.all S9.fin)).mono ?_
    rintro e w7 ⟨rfl, hb7⟩
    have S9 := S9.grow hb7
    clear hb7
    go_upto_if 55 with fail
    go_cut [] from 16 to 65 (fun wc => St w wc [cellsT g1 23 (#[.int .i64 c.nodes, .int .i64 (n : Int), .int .i64 c.quota, .int .i64 c.wave, .int .i64 c.lease, .int .i64 c.retry, .int .i64 c.deadline, .int .i64 c.room, .int .i64 c.disk] : Array Value).toList, cellsT g2 27 s.cs, cellsT g6 34 (#[.int .i64 0, .int .i64 0, .int .i64 0, .int .i64 0, .int .i64 0, .slice none 0 0, .int .i64 0, .int .i64 0] : Array Value).toList, cellsT g7 34 (DI.cs (⟨cU + bI x.up, cC + bI x.cordon, cM + bI x.moving, cB + bI (behB s x), cF, 0, 0⟩) (.slice none 0 0)), cellsT gn 39 x.cs])
    case first =>
      generalize behB s x = pb at *
      cases pb
      · go_wp2_with fail
        go_meet
        simp only [bI, Bool.false_eq_true, if_false, Int.add_zero]
        exact S9
      · have c0 := S9.cell 3 rfl 3 rfl
        have f0 := S9.frozen 3 rfl 3
        have S8 := S9.setCell 3 rfl 3 (.int .i64 (cB + 1))
        go_wp2_with fail
        go_meet
        simp only [bI, if_true]
        exact S8
    case rest =>
    have S10 := hcut
    clear hcut S9
    obtain ⟨c0, c1, c2, c3, c4⟩ := And.intro (S10.cell 4 rfl 0 rfl) (And.intro (S10.cell 4 rfl 1 rfl) (And.intro (S10.cell 4 rfl 2 rfl) (And.intro (S10.cell 4 rfl 3 rfl) (S10.cell 4 rfl 4 rfl))))
    go_wp2_with fail
    clear c0 c1 c2 c3 c4
    refine (r9Free x _).mono ?_
    rintro e w7 ⟨rfl, hb7⟩
    have S10 := S10.grow hb7
    clear hb7
    generalize hfr : x.free = pb at *
    clear hfr
    have c0 := S10.cell 3 rfl 4 rfl
    have f0 := S10.frozen 3 rfl 4
    have S11 := S10.setCell 3 rfl 4 (.int .i64 (cF + 1))
    cases pb
    · have HD2 : Hid (rdK s (k + 1) = ⟨cU + bI x.up, cC + bI x.cordon, cM + bI x.moving, cB + bI (behB s x), cF, 0, 0⟩) := by rw [Hid, HD.out]; simp [bI]
      go_wp2
      go_roundw
      case rel => exact ⟨k + 1, by omega, by rw [E5.out], by go_num, by rw [HD2.out]; exact S10.take 4⟩
      case measure => simp [intOf]; omega
    · have HD2 : Hid (rdK s (k + 1) = ⟨cU + bI x.up, cC + bI x.cordon, cM + bI x.moving, cB + bI (behB s x), cF + 1, 0, 0⟩) := by rw [Hid, HD.out]; simp [bI]
      go_wp2
      go_roundw
      case rel => exact ⟨k + 1, by omega, by rw [E5.out], by go_num, by rw [HD2.out]; exact S11.take 4⟩
      case measure => simp [intOf]; omega
end Go.Proofs.YtjfbmgndekfglaaDoor
