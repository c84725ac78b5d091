/- book.New of whatever fleet may be. -/
import Derived.Test.YtjfbmgndekfglaaDoorRightB4
namespace Go.Proofs.YtjfbmgndekfglaaDoor
set_option linter.unusedVariables false
set_option linter.unusedSimpArgs false
open Go.RowKit
def nd1 : ND := ⟨true, false, false, 1, 0⟩
def nodeN (k : Nat) : List ND := List.replicate k nd1
theorem nodeN_len (k : Nat) : (nodeN k).length = k := by simp [nodeN]
theorem nodeN_succ (k : Nat) : nodeN k ++ [nd1] = nodeN (k + 1) := by simp [nodeN, List.replicate_succ']
theorem res_st {fn : Func} {p : Tmp} (h : fn.results = #[.cell p 27]) (tmps : Array Value) (w : World) (g : Nat) (cs : Array Value) (hp : tmps.getD p undef = .pointer (some ⟨g, 0, none⟩)) (hg : w.heap[g]? = some (.cells cs 27 (0, 0))) (hs : cs.size = 6) :
    (results fn tmps).run Tryd.prog w = .ok (.agg cs) w := by
  have hi : (Tryd.prog.info? 27).map (·.size) = some 6 := by kernel_rfl
  exact results_cell_row h tmps w g 27 cs (0, 0) _ hp hg Tryd.underlying27 rfl (by rw [hi, hs])
set_option maxRecDepth 10000 in
set_option maxHeartbeats 6400000 in
theorem bkNew (c : CF) (n : Nat) (hn : c.nodes = n) (h6 : n ≤ 6) (hm : mayB c = true) (w : World) : Calls Tryd.prog 13 #[.agg #[.int .i64 c.nodes, .int .i64 c.queues, .int .i64 c.quota, .int .i64 c.wave, .int .i64 c.lease, .int .i64 c.retry, .int .i64 c.deadline, .int .i64 c.room, .int .i64 c.disk]] w fun e w' => ∃ na nc, e = .returned (.agg #[.slice na n nc, .slice none 0 0, .int .i64 1, .int .i64 1, .int .i64 0, .int .i64 0]) ∧ St w w' [ownT eND (.slice na n nc) (nodeN n)] := by
  rw [hn]
  have S1 : St w _ [cellsT w.heap.size 23 (#[.int .i64 (n : Int), .int .i64 c.queues, .int .i64 c.quota, .int .i64 c.wave, .int .i64 c.lease, .int .i64 c.retry, .int .i64 c.deadline, .int .i64 c.room, .int .i64 c.disk] : Array Value).toList, cellsT (w.heap.size + 1) 27 (#[.slice none 0 0, .slice none 0 0, .int .i64 0, .int .i64 0, .int .i64 0, .int .i64 0] : Array Value).toList] := ((St.start w).newAt 23 #[.int .i64 (n : Int), .int .i64 c.queues, .int .i64 c.quota, .int .i64 c.wave, .int .i64 c.lease, .int .i64 c.retry, .int .i64 c.deadline, .int .i64 c.room, .int .i64 c.disk] w.heap.size rfl).newAt 27 #[.slice none 0 0, .slice none 0 0, .int .i64 0, .int .i64 0, .int .i64 0, .int .i64 0] (w.heap.size + 1) (alloc_size _ _)
  have HN := hid hn
  have HM := hid hm
  clear hn hm
  go_enter Tryd.func13, Tryd.ntmps13
  go_wp2_with fail
  generalize w.heap.size + 1 = g2 at *
  generalize w.heap.size = g0 at S1 ⊢
  generalize (w.alloc _).alloc _ = w1 at *
  have hmay := bxMay c w1
  rw [HM.out, HN.out] at hmay
  refine hmay.mono ?_
  clear hmay
  rintro e w2 ⟨rfl, hb2⟩
  have S2 := S1.grow hb2
  have c0 := S2.cell 0 rfl 0 rfl
  clear S1 hb2
  have S3 : St w _ [ownT eND (.slice none 0 0) [], cellsT w2.heap.size 27 (#[.slice none 0 0, .slice none 0 0, .int .i64 1, .int .i64 1, .int .i64 0, .int .i64 0] : Array Value).toList, cellsT g0 23 (#[.int .i64 (n : Int), .int .i64 c.queues, .int .i64 c.quota, .int .i64 c.wave, .int .i64 c.lease, .int .i64 c.retry, .int .i64 c.deadline, .int .i64 c.room, .int .i64 c.disk] : Array Value).toList, cellsT g2 27 (#[.slice none 0 0, .slice none 0 0, .int .i64 0, .int .i64 0, .int .i64 0, .int .i64 0] : Array Value).toList] := ((S2.newAt 27 #[.slice none 0 0, .slice none 0 0, .int .i64 1, .int .i64 1, .int .i64 0, .int .i64 0] w2.heap.size rfl).rot.nilG eND).rot
  have c0b := S3.cell 2 rfl 0 rfl
  go_wp2_with fail
  generalize w2.heap.size = g3 at *
  generalize w2.alloc _ = w3 at *
  clear S2 c0 c0b
  go_loopw [11] (fun i wr => ∃ (k : Nat) (a : Option Addr) (q : Nat), k ≤ n ∧ i = .int .i64 k ∧ St w wr [ownT eND (.slice a k q) (nodeN k), cellsT g3 27 (#[.slice a k q, .slice none 0 0, .int .i64 1, .int .i64 1, .int .i64 0, .int .i64 0] : Array Value).toList, cellsT g0 23 (#[.int .i64 (n : Int), .int .i64 c.queues, .int .i64 c.quota, .int .i64 c.wave, .int .i64 c.lease, .int .i64 c.retry, .int .i64 c.deadline, .int .i64 c.room, .int .i64 c.disk] : Array Value).toList, cellsT g2 27 (#[.slice none 0 0, .slice none 0 0, .int .i64 0, .int .i64 0, .int .i64 0, .int .i64 0] : Array Value).toList]) (fun i _ => n - (intOf i).toNat)
  case atStart => exact ⟨0, none, 0, Nat.zero_le _, rfl, S3⟩
  case round =>
    obtain ⟨k, a, q, hk, rfl, Sk⟩ := hrel
    clear S3
    by_cases hlt : k < n
    · have d1 : decide ((k : Int) < (n : Int)) = true := decide_eq_true (by omega)
      have d1n : decide (k < n) = true := decide_eq_true hlt
      have hwk : IntKind.i64.wrap ((k : Int) + 1) = (k : Int) + 1 := by rw [IntKind.wrap_i64]; omega
      have d0 := Sk.cell 1 rfl 0 rfl
      go_wp2_with (at_builtin; refine wpList_app (by rfl) (.tmp 14) (.tmp 16) eND.T eND.T eND.T rfl rfl _ _ rfl rfl (Sk.appG1 eNDok wr.heap.size rfl 0 rfl nd1 _ (by rfl) (k + 1) (by rw [nodeN_len]) (by simp only [eND]; omega) (by unfold maxLen; omega)) ?_; rintro v5 w5 ⟨⟨a5, c5, rfl⟩, S5⟩; have f5 := S5.frozen 1 rfl 0; have d5 := S5.cell 1 rfl 0 rfl)
      have S6 := S5.setCell 1 rfl 0 (.slice a5 (k + 1) c5)
      go_roundw
      case rel => exact ⟨k + 1, a5, c5, by omega, by go_num, by rw [← nodeN_succ]; exact S6⟩
      case measure => simp [intOf]; omega
    · have d1 : decide ((k : Int) < (n : Int)) = false := decide_eq_false (by omega)
      have d1n : decide (k < n) = false := decide_eq_false hlt
      obtain rfl : k = n := by omega
      obtain ⟨z0, z1, z2, z3, z4, z5⟩ := And.intro (Sk.cell 1 rfl 0 rfl) (And.intro (Sk.cell 1 rfl 1 rfl) (And.intro (Sk.cell 1 rfl 2 rfl) (And.intro (Sk.cell 1 rfl 3 rfl) (And.intro (Sk.cell 1 rfl 4 rfl) (Sk.cell 1 rfl 5 rfl)))))
      obtain ⟨f0, f1, f2, f3, f4, f5⟩ := And.intro (Sk.frozen 3 rfl 0) (And.intro (Sk.frozen 3 rfl 1) (And.intro (Sk.frozen 3 rfl 2) (And.intro (Sk.frozen 3 rfl 3) (And.intro (Sk.frozen 3 rfl 4) (Sk.frozen 3 rfl 5)))))
      obtain ⟨y0, y1, y2, y3, y4, y5⟩ := And.intro (Sk.cell 3 rfl 0 rfl) (And.intro (Sk.cell 3 rfl 1 rfl) (And.intro (Sk.cell 3 rfl 2 rfl) (And.intro (Sk.cell 3 rfl 3 rfl) (And.intro (Sk.cell 3 rfl 4 rfl) (Sk.cell 3 rfl 5 rfl)))))
      have SX := ((((((Sk.setCell 3 rfl 0 (.slice a k q)).setCell 3 rfl 1 (.slice none 0 0)).setCell 3 rfl 2 (.int .i64 1)).setCell 3 rfl 3 (.int .i64 1)).setCell 3 rfl 4 (.int .i64 0)).setCell 3 rfl 5 (.int .i64 0))
      go_wp2
      refine bodyPost_ret (res_st rfl _ _ g2 _ rfl (by exact SX.heap 3 rfl) rfl) rfl ?_
      exact ⟨a, q, rfl, SX.take 1⟩
end Go.Proofs.YtjfbmgndekfglaaDoor
