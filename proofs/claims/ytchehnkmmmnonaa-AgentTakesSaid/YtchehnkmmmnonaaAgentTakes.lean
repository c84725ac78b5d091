/- AgentTakes: the law. -/
import Derived.Test.YtchehnkmmmnonaaAgentRef3
namespace Go.Proofs.Ytchehnkmmmnonaa
set_option linter.unusedVariables false
set_option linter.unusedSimpArgs false
open Go.RowKit
def tkB (a : AG) (m : Msg) (now : Int) : AG := (rTakeR a m now ⟨500, 0, [], 0⟩).1
def tkQ (a : AG) (m : Msg) (now : Int) : QS := (rTakeR a m now ⟨500, 0, [], 0⟩).2
def tkT (a : AG) (node : Int) (m : Msg) (now : Int) : Msg := if takesB a m = true then aTell (tkB a m now) node else Msg.zero
theorem takeV_eq (a : AG) (node : Int) (m : Msg) (now : Int) : ∃ s', TakeV a node (aTake a m now (some (SS.new 500))) = .tuple #[.agg #[.bool (tkB a m now).up, .int .i64 (tkB a m now).term, .int .i64 (tkB a m now).gen, .int .i64 (tkB a m now).mode, .int .i64 (tkB a m now).job, .int .i64 (tkB a m now).inc, .int .i64 (tkB a m now).version, .int .i64 (tkB a m now).lease, .int .i64 (tkB a m now).worked, .int .i64 (tkB a m now).to_], .agg #[.int .i64 (tkT a node m now).node, .int .i64 (tkT a node m now).kind, .int .i64 (tkT a node m now).term, .int .i64 (tkT a node m now).gen, .int .i64 (tkT a node m now).job, .int .i64 (tkT a node m now).inc, .int .i64 (tkT a node m now).version, .int .i64 (tkT a node m now).epoch, .int .i64 (tkT a node m now).until_, .int .i64 (tkT a node m now).mode, .int .i64 (tkT a node m now).work], .bool (takesB a m)] ∧ TakeO (some (SS.new 500)) (aTake a m now (some (SS.new 500))) = some s' ∧ RelS s' (tkQ a m now) := by
  have R0 : RelS (SS.new 500) ⟨500, 0, [], 0⟩ := RelS.new 500
  unfold tkT tkB tkQ rTakeR aTake
  cases ht : takesB a m
  · simp only [if_neg (by simp : ¬ (false = true))]
    exact ⟨SS.new 500, rfl, rfl, R0⟩
  · simp only [if_true]
    obtain ⟨h1, s', h2, h3⟩ := rOrder_rel R0 { a with term := m.term, gen := m.gen } m now
    refine ⟨s', ?_, h2, h3⟩
    show Value.tuple #[(oOrder { a with term := m.term, gen := m.gen } m now (some (SS.new 500))).1.v, .agg (aTell (oOrder { a with term := m.term, gen := m.gen } m now (some (SS.new 500))).1 node).cs.toArray, .bool true] = _
    rw [h1]
    rfl
theorem tkQ_len (a : AG) (m : Msg) (now : Int) : (tkQ a m now).L.length ≤ 1 := by
  unfold tkQ rTakeR
  split
  · unfold rOrder
    split
    · simp
    · split
      · simp
      · split
        · simp
        · split
          · unfold rSave
            split
            · split
              · have := (q_len ⟨500, 0, [], 0⟩ m.term a.job a.inc (ckData a.worked)).1
                simpa using this
              · simp
            · simp
          · simp
  · simp
theorem St.setMs {w0 w : World} {l : List Thing} {g : Nat} {T : TypeId} {m m' : Msg} (S : St w0 w (cellsT g T m.cs :: l)) : St w0 (w.setRow g m'.cs.toArray) (cellsT g T m'.cs :: l) := S.setRow 0 rfl m'.cs.toArray
theorem msStore (w : World) (g : Nat) (a b : Msg) (h : w.heap[g]? = some (.cells a.cs.toArray 25 (0, 0))) : (storeCells ⟨g, 0, none⟩ b.cs).run Try.prog w = .ok () (w.setRow g b.cs.toArray) := by
  have := run_storeCells_from (P := Try.prog) g 25 b.cs 0 a.cs.toArray w h rfl (by
    intro v hv
    simp only [Msg.cs, List.mem_cons, List.not_mem_nil, or_false] at hv
    rcases hv with rfl | rfl | rfl | rfl | rfl | rfl | rfl | rfl | rfl | rfl | rfl <;> rfl)
  simpa using this
theorem eqM_self (m : Msg) (wx : World) : (binOp .eql 25 (.agg #[.int .i64 m.node, .int .i64 m.kind, .int .i64 m.term, .int .i64 m.gen, .int .i64 m.job, .int .i64 m.inc, .int .i64 m.version, .int .i64 m.epoch, .int .i64 m.until_, .int .i64 m.mode, .int .i64 m.work]) (.agg #[.int .i64 m.node, .int .i64 m.kind, .int .i64 m.term, .int .i64 m.gen, .int .i64 m.job, .int .i64 m.inc, .int .i64 m.version, .int .i64 m.epoch, .int .i64 m.until_, .int .i64 m.mode, .int .i64 m.work])).run Try.prog wx = .ok (.bool true) wx := by
  have := eqM m m wx
  rw [Msg.eq_self] at this
  exact this
theorem eqAG_self (a : AG) (wx : World) : (binOp .eql 23 (.agg #[.bool a.up, .int .i64 a.term, .int .i64 a.gen, .int .i64 a.mode, .int .i64 a.job, .int .i64 a.inc, .int .i64 a.version, .int .i64 a.lease, .int .i64 a.worked, .int .i64 a.to_]) (.agg #[.bool a.up, .int .i64 a.term, .int .i64 a.gen, .int .i64 a.mode, .int .i64 a.job, .int .i64 a.inc, .int .i64 a.version, .int .i64 a.lease, .int .i64 a.worked, .int .i64 a.to_])).run Try.prog wx = .ok (.bool true) wx := by
  have := eqAG a a wx
  rw [AG.eq_self] at this
  exact this
set_option maxRecDepth 10000 in
set_option maxHeartbeats 12800000 in
theorem agentTakes_law (a : AG) (node : Int) (m : Msg) (now : Int) (w : World) :
    Calls Try.prog 3 #[.agg #[.bool a.up, .int .i64 a.term, .int .i64 a.gen, .int .i64 a.mode, .int .i64 a.job, .int .i64 a.inc, .int .i64 a.version, .int .i64 a.lease, .int .i64 a.worked, .int .i64 a.to_], .int .i64 node, .agg #[.int .i64 m.node, .int .i64 m.kind, .int .i64 m.term, .int .i64 m.gen, .int .i64 m.job, .int .i64 m.inc, .int .i64 m.version, .int .i64 m.epoch, .int .i64 m.until_, .int .i64 m.mode, .int .i64 m.work], .int .i64 now] w fun e w' => e = .returned (.bool true) ∧ Below w.heap.size w w' := by
  have S1 : St w _ [cellsT w.heap.size 23 a.cs, cellsT (w.heap.size + 1) 25 m.cs] := ((St.start w).newAt 23 #[.bool a.up, .int .i64 a.term, .int .i64 a.gen, .int .i64 a.mode, .int .i64 a.job, .int .i64 a.inc, .int .i64 a.version, .int .i64 a.lease, .int .i64 a.worked, .int .i64 a.to_] w.heap.size rfl).newAt 25 #[.int .i64 m.node, .int .i64 m.kind, .int .i64 m.term, .int .i64 m.gen, .int .i64 m.job, .int .i64 m.inc, .int .i64 m.version, .int .i64 m.epoch, .int .i64 m.until_, .int .i64 m.mode, .int .i64 m.work] (w.heap.size + 1) (alloc_size _ _)
  have qM : ∀ wx, (binOp .eql 25 (.agg #[.int .i64 (aTell a node).node, .int .i64 (aTell a node).kind, .int .i64 (aTell a node).term, .int .i64 (aTell a node).gen, .int .i64 (aTell a node).job, .int .i64 (aTell a node).inc, .int .i64 (aTell a node).version, .int .i64 (aTell a node).epoch, .int .i64 (aTell a node).until_, .int .i64 (aTell a node).mode, .int .i64 (aTell a node).work]) (.agg #[.int .i64 (aTell a node).node, .int .i64 (aTell a node).kind, .int .i64 (aTell a node).term, .int .i64 (aTell a node).gen, .int .i64 (aTell a node).job, .int .i64 (aTell a node).inc, .int .i64 (aTell a node).version, .int .i64 (aTell a node).epoch, .int .i64 (aTell a node).until_, .int .i64 (aTell a node).mode, .int .i64 (aTell a node).work])).run Try.prog wx = .ok (.bool true) wx := eqM_self _
  go_enter Try.func3, Try.ntmps3
  go_wp2_with fail
  generalize w.heap.size + 1 = g6 at *
  generalize w.heap.size = g4 at *
  generalize (w.alloc _).alloc _ = w1 at *
  refine (alive13_any _).mono ?_
  rintro e w2 ⟨rfl, hb2⟩
  have S2 := S1.grow hb2
  clear S1 hb2
  obtain ⟨x0, x1, x2, x3, x4, x5, x6, x7, x8, x9⟩ := S2.agAt 0 rfl
  go_wp2_with fail
  refine (agRight a _).mono ?_
  rintro e w3 ⟨b, rfl, -, hb3⟩
  have S3 := S2.grow hb3
  clear x0 x1 x2 x3 x4 x5 x6 x7 x8 x9 S2 hb3
  cases b
  · go_wp2
    go_ret
    exact ⟨rfl, S3.fin⟩
  obtain ⟨y0, y1, y2, y3, y4, y5, y6, y7, y8, y9, y10⟩ := S3.msg 1 rfl
  go_wp2_with fail
  refine (rright_any m _).mono ?_
  rintro e w4 ⟨rfl, hb4⟩
  have S4 := S3.grow hb4
  clear y0 y1 y2 y3 y4 y5 y6 y7 y8 y9 y10 S3 hb4
  generalize m.right = mr at *
  cases mr
  · go_wp2
    go_ret
    exact ⟨rfl, S4.fin⟩
  go_wp2_with fail
  refine (stNew_any S4 500).mono ?_
  rintro e w5 ⟨rfl, S5⟩
  generalize w4.heap.size = gs at *
  clear S4
  go_wp2_with fail
  refine (rqNew_any S5 500).mono ?_
  rintro e w6 ⟨rfl, S6⟩
  generalize w5.heap.size = h at *
  clear S5
  have S7 : St w w6 [rstT h ⟨500, 0, [], 0⟩, cellsT g4 23 a.cs, cellsT g6 25 m.cs, soT (.pointer (some ⟨gs, 0, none⟩)) (some (SS.new 500))] := S6.soMk 3 rfl
  have S8 : St w w6 [soT (.pointer (some ⟨gs, 0, none⟩)) (some (SS.new 500)), rstT h ⟨500, 0, [], 0⟩, cellsT g4 23 a.cs, cellsT g6 25 m.cs] := S7.front 3 rfl
  clear S6 S7
  obtain ⟨sv, hsv⟩ : ∃ sv, Value.pointer (some ⟨gs, 0, none⟩) = sv := ⟨_, rfl⟩
  rw [hsv] at S8 ⊢
  clear hsv
  obtain ⟨s2, hV, hO2, hR2⟩ := takeV_eq a node m now
  have hQL := tkQ_len a m now
  have hRT : rTakeR a m now ⟨500, 0, [], 0⟩ = (tkB a m now, tkQ a m now) := rfl
  have HTT : Hid (tkT a node m now = if takesB a m = true then aTell (tkB a m now) node else Msg.zero) := rfl
  obtain ⟨b, hb⟩ : ∃ b, tkB a m now = b := ⟨_, rfl⟩
  obtain ⟨q2, hq⟩ : ∃ q2, tkQ a m now = q2 := ⟨_, rfl⟩
  obtain ⟨t, ht⟩ : ∃ t, tkT a node m now = t := ⟨_, rfl⟩
  obtain ⟨tb, htb⟩ : ∃ tb, takesB a m = tb := ⟨_, rfl⟩
  rw [hb, ht, htb] at hV
  rw [hq] at hR2 hQL
  rw [hb, hq] at hRT
  rw [ht, htb, hb] at HTT
  have HV := hid hV
  have HO2 := hid hO2
  have HR2 := hid hR2
  have HRT := hid hRT
  have HTB := hid htb
  clear hV hO2 hR2 hRT hb hq ht htb
  have qA := eqAG_self b
  have qT := eqM_self t
  obtain ⟨x0, x1, x2, x3, x4, x5, x6, x7, x8, x9⟩ := S8.agAt 2 rfl
  obtain ⟨y0, y1, y2, y3, y4, y5, y6, y7, y8, y9, y10⟩ := S8.msg 3 rfl
  go_wp2_with fail
  refine (agTake S8 a node m now (show 0 ≤ 1000000 by decide)).mono ?_
  rintro e w7 ⟨rfl, S9⟩
  rw [HV.out]
  rw [HO2.out] at S9
  clear x0 x1 x2 x3 x4 x5 x6 x7 x8 x9 y0 y1 y2 y3 y4 y5 y6 y7 y8 y9 y10 S8
  have S10 : St w _ [soT sv (some s2), rstT h ⟨500, 0, [], 0⟩, cellsT g4 23 a.cs, cellsT g6 25 m.cs, cellsT w7.heap.size 23 b.cs, cellsT (w7.heap.size + 1) 25 t.cs] := (S9.newAt 23 #[.bool b.up, .int .i64 b.term, .int .i64 b.gen, .int .i64 b.mode, .int .i64 b.job, .int .i64 b.inc, .int .i64 b.version, .int .i64 b.lease, .int .i64 b.worked, .int .i64 b.to_] w7.heap.size rfl).newAt 25 #[.int .i64 t.node, .int .i64 t.kind, .int .i64 t.term, .int .i64 t.gen, .int .i64 t.job, .int .i64 t.inc, .int .i64 t.version, .int .i64 t.epoch, .int .i64 t.until_, .int .i64 t.mode, .int .i64 t.work] (w7.heap.size + 1) (alloc_size _ _)
  clear S9
  obtain ⟨x0, x1, x2, x3, x4, x5, x6, x7, x8, x9⟩ := S10.agAt 2 rfl
  obtain ⟨y0, y1, y2, y3, y4, y5, y6, y7, y8, y9, y10⟩ := S10.msg 3 rfl
  go_wp2_with fail
  generalize w7.heap.size + 1 = g12 at *
  generalize w7.heap.size = g11 at *
  generalize (w7.alloc _).alloc _ = w8 at *
  have S11 := S10.front 1 rfl
  clear S10 x0 x1 x2 x3 x4 x5 x6 x7 x8 x9 y0 y1 y2 y3 y4 y5 y6 y7 y8 y9 y10
  refine (rTake_any S11 (by simp) (by simp) a m now).mono ?_
  rintro e w9 ⟨rfl, S12⟩
  rw [HRT.out, HTB.out, show (b, q2).1.v = .agg #[.bool b.up, .int .i64 b.term, .int .i64 b.gen, .int .i64 b.mode, .int .i64 b.job, .int .i64 b.inc, .int .i64 b.version, .int .i64 b.lease, .int .i64 b.worked, .int .i64 b.to_] from rfl]
  rw [HRT.out] at S12
  have S13 : St w w9 [soT sv (some s2), rstT h q2, cellsT g4 23 a.cs, cellsT g6 25 m.cs, cellsT g11 23 b.cs, cellsT g12 25 t.cs] := S12.front 1 rfl
  clear S11 S12
  have S14 : St w _ [soT sv (some s2), rstT h q2, cellsT g4 23 a.cs, cellsT g6 25 m.cs, cellsT g11 23 b.cs, cellsT g12 25 t.cs, cellsT w9.heap.size 23 b.cs, cellsT (w9.heap.size + 1) 25 Msg.zero.cs] := (S13.newAt 23 #[.bool b.up, .int .i64 b.term, .int .i64 b.gen, .int .i64 b.mode, .int .i64 b.job, .int .i64 b.inc, .int .i64 b.version, .int .i64 b.lease, .int .i64 b.worked, .int .i64 b.to_] w9.heap.size rfl).newAt 25 #[.int .i64 0, .int .i64 0, .int .i64 0, .int .i64 0, .int .i64 0, .int .i64 0, .int .i64 0, .int .i64 0, .int .i64 0, .int .i64 0, .int .i64 0] (w9.heap.size + 1) (alloc_size _ _)
  clear S13
  cases tb
  · have ht : t = Msg.zero := HTT.out
    have SA : St w ((w9.alloc (.cells #[.bool b.up, .int .i64 b.term, .int .i64 b.gen, .int .i64 b.mode, .int .i64 b.job, .int .i64 b.inc, .int .i64 b.version, .int .i64 b.lease, .int .i64 b.worked, .int .i64 b.to_] 23)).alloc (.cells #[.int .i64 0, .int .i64 0, .int .i64 0, .int .i64 0, .int .i64 0, .int .i64 0, .int .i64 0, .int .i64 0, .int .i64 0, .int .i64 0, .int .i64 0] 25)) [soT sv (some s2), rstT h q2, cellsT g4 23 a.cs, cellsT g6 25 m.cs, cellsT g11 23 b.cs, cellsT g12 25 t.cs, cellsT w9.heap.size 23 b.cs, cellsT (w9.heap.size + 1) 25 t.cs] := by rw [ht] at S14 ⊢; exact S14
    clear S14 ht HTT
    obtain ⟨x0, x1, x2, x3, x4, x5, x6, x7, x8, x9⟩ := SA.agAt 2 rfl
    go_wp2_with fail
    generalize w9.heap.size + 1 = g16 at *
    generalize w9.heap.size = g14 at *
    generalize (w9.alloc _).alloc _ = w10 at *
    clear x0 x1 x2 x3 x4 x5 x6 x7 x8 x9
    have keep : ∀ {w' : World} {l : List Thing}, St w w' (soT sv (some s2) :: rstT h q2 :: cellsT g4 23 a.cs :: cellsT g6 25 m.cs :: cellsT g11 23 b.cs :: cellsT g12 25 t.cs :: cellsT g14 23 b.cs :: cellsT g16 25 t.cs :: l) → ((w'.cell? ⟨g4, 0, none⟩ = some (.bool a.up) ∧ w'.cell? ⟨g4, 1, none⟩ = some (.int .i64 a.term) ∧ w'.cell? ⟨g4, 2, none⟩ = some (.int .i64 a.gen) ∧ w'.cell? ⟨g4, 3, none⟩ = some (.int .i64 a.mode) ∧ w'.cell? ⟨g4, 4, none⟩ = some (.int .i64 a.job) ∧ w'.cell? ⟨g4, 5, none⟩ = some (.int .i64 a.inc) ∧ w'.cell? ⟨g4, 6, none⟩ = some (.int .i64 a.version) ∧ w'.cell? ⟨g4, 7, none⟩ = some (.int .i64 a.lease) ∧ w'.cell? ⟨g4, 8, none⟩ = some (.int .i64 a.worked) ∧ w'.cell? ⟨g4, 9, none⟩ = some (.int .i64 a.to_)) ∧ (w'.cell? ⟨g11, 0, none⟩ = some (.bool b.up) ∧ w'.cell? ⟨g11, 1, none⟩ = some (.int .i64 b.term) ∧ w'.cell? ⟨g11, 2, none⟩ = some (.int .i64 b.gen) ∧ w'.cell? ⟨g11, 3, none⟩ = some (.int .i64 b.mode) ∧ w'.cell? ⟨g11, 4, none⟩ = some (.int .i64 b.job) ∧ w'.cell? ⟨g11, 5, none⟩ = some (.int .i64 b.inc) ∧ w'.cell? ⟨g11, 6, none⟩ = some (.int .i64 b.version) ∧ w'.cell? ⟨g11, 7, none⟩ = some (.int .i64 b.lease) ∧ w'.cell? ⟨g11, 8, none⟩ = some (.int .i64 b.worked) ∧ w'.cell? ⟨g11, 9, none⟩ = some (.int .i64 b.to_)) ∧ (w'.cell? ⟨g14, 0, none⟩ = some (.bool b.up) ∧ w'.cell? ⟨g14, 1, none⟩ = some (.int .i64 b.term) ∧ w'.cell? ⟨g14, 2, none⟩ = some (.int .i64 b.gen) ∧ w'.cell? ⟨g14, 3, none⟩ = some (.int .i64 b.mode) ∧ w'.cell? ⟨g14, 4, none⟩ = some (.int .i64 b.job) ∧ w'.cell? ⟨g14, 5, none⟩ = some (.int .i64 b.inc) ∧ w'.cell? ⟨g14, 6, none⟩ = some (.int .i64 b.version) ∧ w'.cell? ⟨g14, 7, none⟩ = some (.int .i64 b.lease) ∧ w'.cell? ⟨g14, 8, none⟩ = some (.int .i64 b.worked) ∧ w'.cell? ⟨g14, 9, none⟩ = some (.int .i64 b.to_)) ∧ (w'.cell? ⟨g12, 0, none⟩ = some (.int .i64 t.node) ∧ w'.cell? ⟨g12, 1, none⟩ = some (.int .i64 t.kind) ∧ w'.cell? ⟨g12, 2, none⟩ = some (.int .i64 t.term) ∧ w'.cell? ⟨g12, 3, none⟩ = some (.int .i64 t.gen) ∧ w'.cell? ⟨g12, 4, none⟩ = some (.int .i64 t.job) ∧ w'.cell? ⟨g12, 5, none⟩ = some (.int .i64 t.inc) ∧ w'.cell? ⟨g12, 6, none⟩ = some (.int .i64 t.version) ∧ w'.cell? ⟨g12, 7, none⟩ = some (.int .i64 t.epoch) ∧ w'.cell? ⟨g12, 8, none⟩ = some (.int .i64 t.until_) ∧ w'.cell? ⟨g12, 9, none⟩ = some (.int .i64 t.mode) ∧ w'.cell? ⟨g12, 10, none⟩ = some (.int .i64 t.work)) ∧ (w'.cell? ⟨g16, 0, none⟩ = some (.int .i64 t.node) ∧ w'.cell? ⟨g16, 1, none⟩ = some (.int .i64 t.kind) ∧ w'.cell? ⟨g16, 2, none⟩ = some (.int .i64 t.term) ∧ w'.cell? ⟨g16, 3, none⟩ = some (.int .i64 t.gen) ∧ w'.cell? ⟨g16, 4, none⟩ = some (.int .i64 t.job) ∧ w'.cell? ⟨g16, 5, none⟩ = some (.int .i64 t.inc) ∧ w'.cell? ⟨g16, 6, none⟩ = some (.int .i64 t.version) ∧ w'.cell? ⟨g16, 7, none⟩ = some (.int .i64 t.epoch) ∧ w'.cell? ⟨g16, 8, none⟩ = some (.int .i64 t.until_) ∧ w'.cell? ⟨g16, 9, none⟩ = some (.int .i64 t.mode) ∧ w'.cell? ⟨g16, 10, none⟩ = some (.int .i64 t.work))) := fun S => ⟨S.agAt 2 rfl, S.agAt 4 rfl, S.agAt 6 rfl, S.msg 5 rfl, S.msg 7 rfl⟩
    obtain ⟨⟨x0, x1, x2, x3, x4, x5, x6, x7, x8, x9⟩, -⟩ := keep SA
    (try go_wp2_with fail)
    refine (soGet SA 0 rfl a.job a.inc).mono ?_
    rintro e w9 ⟨ap, cp, rfl, hop, hbp⟩
    rw [show oGet (some s2) a.job a.inc = qGet q2 a.job a.inc from HR2.out.get _ _] at hop ⊢
    have SB : St w w9 [soT sv (some s2), rstT h q2, cellsT g4 23 a.cs, cellsT g6 25 m.cs, cellsT g11 23 b.cs, cellsT g12 25 t.cs, cellsT g14 23 b.cs, cellsT g16 25 t.cs, bytesT _ _] := SA.bytes hop hbp
    clear hop hbp x0 x1 x2 x3 x4 x5 x6 x7 x8 x9 SA
    obtain ⟨⟨x0, x1, x2, x3, x4, x5, x6, x7, x8, x9⟩, -⟩ := keep SB
    have SB' := SB.front 1 rfl
    go_wp2_with fail
    refine (rqGet_any SB' (by omega) a.job a.inc).mono ?_
    rintro e w10 ⟨aq, cq, rfl, hAq, hlq, rfl⟩
    clear SB'
    obtain ⟨O, hO⟩ : ∃ O, qGet q2 a.job a.inc = O := ⟨_, rfl⟩
    rw [hO] at SB hAq hlq ⊢
    have k1 : (O.isSome == O.isSome) = true := by simp
    have k2 : (O.getD [] == O.getD []) = true := by simp
    obtain ⟨D, hD⟩ : ∃ D, O.getD [] = D := ⟨_, rfl⟩
    rw [hD] at SB hAq hlq k2 ⊢
    generalize O.isSome = ob at *
    clear hO hD x0 x1 x2 x3 x4 x5 x6 x7 x8 x9
    obtain ⟨dn, hdn⟩ : ∃ dn, D.length = dn := ⟨_, rfl⟩
    have HDN := hid hdn
    rw [hdn] at SB hlq ⊢
    clear hdn
    go_wp2_with fail
    refine wp_region_held_drew (S := (fun w' => ((w'.cell? ⟨g4, 0, none⟩ = some (.bool a.up) ∧ w'.cell? ⟨g4, 1, none⟩ = some (.int .i64 a.term) ∧ w'.cell? ⟨g4, 2, none⟩ = some (.int .i64 a.gen) ∧ w'.cell? ⟨g4, 3, none⟩ = some (.int .i64 a.mode) ∧ w'.cell? ⟨g4, 4, none⟩ = some (.int .i64 a.job) ∧ w'.cell? ⟨g4, 5, none⟩ = some (.int .i64 a.inc) ∧ w'.cell? ⟨g4, 6, none⟩ = some (.int .i64 a.version) ∧ w'.cell? ⟨g4, 7, none⟩ = some (.int .i64 a.lease) ∧ w'.cell? ⟨g4, 8, none⟩ = some (.int .i64 a.worked) ∧ w'.cell? ⟨g4, 9, none⟩ = some (.int .i64 a.to_)) ∧ (w'.cell? ⟨g11, 0, none⟩ = some (.bool b.up) ∧ w'.cell? ⟨g11, 1, none⟩ = some (.int .i64 b.term) ∧ w'.cell? ⟨g11, 2, none⟩ = some (.int .i64 b.gen) ∧ w'.cell? ⟨g11, 3, none⟩ = some (.int .i64 b.mode) ∧ w'.cell? ⟨g11, 4, none⟩ = some (.int .i64 b.job) ∧ w'.cell? ⟨g11, 5, none⟩ = some (.int .i64 b.inc) ∧ w'.cell? ⟨g11, 6, none⟩ = some (.int .i64 b.version) ∧ w'.cell? ⟨g11, 7, none⟩ = some (.int .i64 b.lease) ∧ w'.cell? ⟨g11, 8, none⟩ = some (.int .i64 b.worked) ∧ w'.cell? ⟨g11, 9, none⟩ = some (.int .i64 b.to_)) ∧ (w'.cell? ⟨g14, 0, none⟩ = some (.bool b.up) ∧ w'.cell? ⟨g14, 1, none⟩ = some (.int .i64 b.term) ∧ w'.cell? ⟨g14, 2, none⟩ = some (.int .i64 b.gen) ∧ w'.cell? ⟨g14, 3, none⟩ = some (.int .i64 b.mode) ∧ w'.cell? ⟨g14, 4, none⟩ = some (.int .i64 b.job) ∧ w'.cell? ⟨g14, 5, none⟩ = some (.int .i64 b.inc) ∧ w'.cell? ⟨g14, 6, none⟩ = some (.int .i64 b.version) ∧ w'.cell? ⟨g14, 7, none⟩ = some (.int .i64 b.lease) ∧ w'.cell? ⟨g14, 8, none⟩ = some (.int .i64 b.worked) ∧ w'.cell? ⟨g14, 9, none⟩ = some (.int .i64 b.to_)) ∧ (w'.cell? ⟨g12, 0, none⟩ = some (.int .i64 t.node) ∧ w'.cell? ⟨g12, 1, none⟩ = some (.int .i64 t.kind) ∧ w'.cell? ⟨g12, 2, none⟩ = some (.int .i64 t.term) ∧ w'.cell? ⟨g12, 3, none⟩ = some (.int .i64 t.gen) ∧ w'.cell? ⟨g12, 4, none⟩ = some (.int .i64 t.job) ∧ w'.cell? ⟨g12, 5, none⟩ = some (.int .i64 t.inc) ∧ w'.cell? ⟨g12, 6, none⟩ = some (.int .i64 t.version) ∧ w'.cell? ⟨g12, 7, none⟩ = some (.int .i64 t.epoch) ∧ w'.cell? ⟨g12, 8, none⟩ = some (.int .i64 t.until_) ∧ w'.cell? ⟨g12, 9, none⟩ = some (.int .i64 t.mode) ∧ w'.cell? ⟨g12, 10, none⟩ = some (.int .i64 t.work)) ∧ (w'.cell? ⟨g16, 0, none⟩ = some (.int .i64 t.node) ∧ w'.cell? ⟨g16, 1, none⟩ = some (.int .i64 t.kind) ∧ w'.cell? ⟨g16, 2, none⟩ = some (.int .i64 t.term) ∧ w'.cell? ⟨g16, 3, none⟩ = some (.int .i64 t.gen) ∧ w'.cell? ⟨g16, 4, none⟩ = some (.int .i64 t.job) ∧ w'.cell? ⟨g16, 5, none⟩ = some (.int .i64 t.inc) ∧ w'.cell? ⟨g16, 6, none⟩ = some (.int .i64 t.version) ∧ w'.cell? ⟨g16, 7, none⟩ = some (.int .i64 t.epoch) ∧ w'.cell? ⟨g16, 8, none⟩ = some (.int .i64 t.until_) ∧ w'.cell? ⟨g16, 9, none⟩ = some (.int .i64 t.mode) ∧ w'.cell? ⟨g16, 10, none⟩ = some (.int .i64 t.work))))) (by kernel_rfl) (by exact keep SB.drew) (fun hHeld => ?_)
    change wpAnyH _ _ _ _ _ 33 (Array.replicate 33 false) _ _
    refine wpAnyH_take (i := 0) (v := ?v1) (ops_at rfl) (by kernel_rfl) (by kernel_rfl) (by kernel_rfl) (fun _ _ _ h => h) (Or.inl ⟨by rfl, ?hy1⟩) (by assumption) ?rest1
    case hy1 => intro w' hSw; (try dsimp only at hSw); go_simp; try with_reducible rfl
    try simp only [Act.put, List.setIfInBounds_toArray, List.set_cons_zero, List.set_cons_succ]
    refine wpAnyH_take (i := 1) (v := ?v2) (ops_at rfl) (by kernel_rfl) (by kernel_rfl) (by kernel_rfl) (fun _ _ _ h => h) (Or.inl ⟨by rfl, ?hy2⟩) (by assumption) ?rest2
    case hy2 => intro w' hSw; (try dsimp only at hSw); go_simp; try with_reducible rfl
    try simp only [Act.put, List.setIfInBounds_toArray, List.set_cons_zero, List.set_cons_succ]
    refine wpAnyH_take (i := 2) (v := ?v3) (ops_at rfl) (by kernel_rfl) (by kernel_rfl) (by kernel_rfl) (fun _ _ _ h => h) (Or.inl ⟨by rfl, ?hy3⟩) (by assumption) ?rest3
    case hy3 => intro w' hSw; (try dsimp only at hSw); go_simp; try with_reducible rfl
    try simp only [Act.put, List.setIfInBounds_toArray, List.set_cons_zero, List.set_cons_succ]
    refine wpAnyH_take (i := 3) (v := ?v4) (ops_at rfl) (by kernel_rfl) (by kernel_rfl) (by kernel_rfl) (fun _ _ _ h => h) (Or.inl ⟨by rfl, ?hy4⟩) (by assumption) ?rest4
    case hy4 => intro w' hSw; (try dsimp only at hSw); go_simp; try with_reducible rfl
    try simp only [Act.put, List.setIfInBounds_toArray, List.set_cons_zero, List.set_cons_succ]
    refine wpAnyH_take (i := 4) (v := ?v5) (ops_at rfl) (by kernel_rfl) (by kernel_rfl) (by kernel_rfl) (fun _ _ _ h => h) (Or.inl ⟨by rfl, ?hy5⟩) (by assumption) ?rest5
    case hy5 => intro w' hSw; (try dsimp only at hSw); go_simp; try with_reducible rfl
    try simp only [Act.put, List.setIfInBounds_toArray, List.set_cons_zero, List.set_cons_succ]
    refine wpAnyH_take (i := 5) (v := ?v6) (ops_at rfl) (by kernel_rfl) (by kernel_rfl) (by kernel_rfl) (fun _ _ _ h => h) (Or.inl ⟨by rfl, ?hy6⟩) (by assumption) ?rest6
    case hy6 => intro w' hSw; (try dsimp only at hSw); go_simp; try with_reducible rfl
    try simp only [Act.put, List.setIfInBounds_toArray, List.set_cons_zero, List.set_cons_succ]
    refine wpAnyH_take (i := 6) (v := ?v7) (ops_at rfl) (by kernel_rfl) (by kernel_rfl) (by kernel_rfl) (fun _ _ _ h => h) (Or.inl ⟨by rfl, ?hy7⟩) (by assumption) ?rest7
    case hy7 => intro w' hSw; (try dsimp only at hSw); go_simp; try with_reducible rfl
    try simp only [Act.put, List.setIfInBounds_toArray, List.set_cons_zero, List.set_cons_succ]
    refine wpAnyH_take (i := 7) (v := ?v8) (ops_at rfl) (by kernel_rfl) (by kernel_rfl) (by kernel_rfl) (fun _ _ _ h => h) (Or.inl ⟨by rfl, ?hy8⟩) (by assumption) ?rest8
    case hy8 => intro w' hSw; (try dsimp only at hSw); go_simp; try with_reducible rfl
    try simp only [Act.put, List.setIfInBounds_toArray, List.set_cons_zero, List.set_cons_succ]
    refine wpAnyH_take (i := 8) (v := ?v9) (ops_at rfl) (by kernel_rfl) (by kernel_rfl) (by kernel_rfl) (fun _ _ _ h => h) (Or.inl ⟨by rfl, ?hy9⟩) (by assumption) ?rest9
    case hy9 => intro w' hSw; (try dsimp only at hSw); go_simp; try with_reducible rfl
    try simp only [Act.put, List.setIfInBounds_toArray, List.set_cons_zero, List.set_cons_succ]
    refine wpAnyH_take (i := 9) (v := ?v10) (ops_at rfl) (by kernel_rfl) (by kernel_rfl) (by kernel_rfl) (fun _ _ _ h => h) (Or.inl ⟨by rfl, ?hy10⟩) (by assumption) ?rest10
    case hy10 => intro w' hSw; (try dsimp only at hSw); go_simp; try with_reducible rfl
    try simp only [Act.put, List.setIfInBounds_toArray, List.set_cons_zero, List.set_cons_succ]
    refine wpAnyH_take (i := 10) (v := ?v11) (ops_at rfl) (by kernel_rfl) (by kernel_rfl) (by kernel_rfl) (fun _ _ _ h => h) (Or.inl ⟨by rfl, ?hy11⟩) (by assumption) ?rest11
    case hy11 => intro w' hSw; (try dsimp only at hSw); go_simp; try with_reducible rfl
    try simp only [Act.put, List.setIfInBounds_toArray, List.set_cons_zero, List.set_cons_succ]
    refine wpAnyH_take (i := 11) (v := ?v12) (ops_at rfl) (by kernel_rfl) (by kernel_rfl) (by kernel_rfl) (fun _ _ _ h => h) (Or.inl ⟨by rfl, ?hy12⟩) (by assumption) ?rest12
    case hy12 => intro w' hSw; (try dsimp only at hSw); go_simp; try with_reducible rfl
    try simp only [Act.put, List.setIfInBounds_toArray, List.set_cons_zero, List.set_cons_succ]
    refine wpAnyH_take (i := 12) (v := ?v13) (ops_at rfl) (by kernel_rfl) (by kernel_rfl) (by kernel_rfl) (fun _ _ _ h => h) (Or.inl ⟨by rfl, ?hy13⟩) (by assumption) ?rest13
    case hy13 => intro w' hSw; (try dsimp only at hSw); go_simp; try with_reducible rfl
    try simp only [Act.put, List.setIfInBounds_toArray, List.set_cons_zero, List.set_cons_succ]
    refine wpAnyH_take (i := 13) (v := ?v14) (ops_at rfl) (by kernel_rfl) (by kernel_rfl) (by kernel_rfl) (fun _ _ _ h => h) (Or.inl ⟨by rfl, ?hy14⟩) (by assumption) ?rest14
    case hy14 => intro w' hSw; (try dsimp only at hSw); go_simp; try with_reducible rfl
    try simp only [Act.put, List.setIfInBounds_toArray, List.set_cons_zero, List.set_cons_succ]
    refine wpAnyH_take (i := 14) (v := ?v15) (ops_at rfl) (by kernel_rfl) (by kernel_rfl) (by kernel_rfl) (fun _ _ _ h => h) (Or.inl ⟨by rfl, ?hy15⟩) (by assumption) ?rest15
    case hy15 => intro w' hSw; (try dsimp only at hSw); go_simp; try with_reducible rfl
    try simp only [Act.put, List.setIfInBounds_toArray, List.set_cons_zero, List.set_cons_succ]
    refine wpAnyH_take (i := 15) (v := ?v16) (ops_at rfl) (by kernel_rfl) (by kernel_rfl) (by kernel_rfl) (fun _ _ _ h => h) (Or.inl ⟨by rfl, ?hy16⟩) (by assumption) ?rest16
    case hy16 => intro w' hSw; (try dsimp only at hSw); go_simp; try with_reducible rfl
    try simp only [Act.put, List.setIfInBounds_toArray, List.set_cons_zero, List.set_cons_succ]
    refine wpAnyH_take (i := 16) (v := ?v17) (ops_at rfl) (by kernel_rfl) (by kernel_rfl) (by kernel_rfl) (fun _ _ _ h => h) (Or.inl ⟨by rfl, ?hy17⟩) (by assumption) ?rest17
    case hy17 => intro w' hSw; (try dsimp only at hSw); go_simp; try with_reducible rfl
    try simp only [Act.put, List.setIfInBounds_toArray, List.set_cons_zero, List.set_cons_succ]
    refine wpAnyH_take (i := 17) (v := ?v18) (ops_at rfl) (by kernel_rfl) (by kernel_rfl) (by kernel_rfl) (fun _ _ _ h => h) (Or.inl ⟨by rfl, ?hy18⟩) (by assumption) ?rest18
    case hy18 => intro w' hSw; (try dsimp only at hSw); go_simp; try with_reducible rfl
    try simp only [Act.put, List.setIfInBounds_toArray, List.set_cons_zero, List.set_cons_succ]
    refine wpAnyH_take (i := 18) (v := ?v19) (ops_at rfl) (by kernel_rfl) (by kernel_rfl) (by kernel_rfl) (fun _ _ _ h => h) (Or.inl ⟨by rfl, ?hy19⟩) (by assumption) ?rest19
    case hy19 => intro w' hSw; (try dsimp only at hSw); go_simp; try with_reducible rfl
    try simp only [Act.put, List.setIfInBounds_toArray, List.set_cons_zero, List.set_cons_succ]
    refine wpAnyH_take (i := 19) (v := ?v20) (ops_at rfl) (by kernel_rfl) (by kernel_rfl) (by kernel_rfl) (fun _ _ _ h => h) (Or.inl ⟨by rfl, ?hy20⟩) (by assumption) ?rest20
    case hy20 => intro w' hSw; (try dsimp only at hSw); go_simp; try with_reducible rfl
    try simp only [Act.put, List.setIfInBounds_toArray, List.set_cons_zero, List.set_cons_succ]
    refine wpAnyH_take (i := 20) (v := ?v21) (ops_at rfl) (by kernel_rfl) (by kernel_rfl) (by kernel_rfl) (fun _ _ _ h => h) (Or.inl ⟨by rfl, ?hy21⟩) (by assumption) ?rest21
    case hy21 => intro w' hSw; (try dsimp only at hSw); go_simp; try with_reducible rfl
    try simp only [Act.put, List.setIfInBounds_toArray, List.set_cons_zero, List.set_cons_succ]
    refine wpAnyH_ready (rs := [21]) (by kernel_rfl) (by simp) ?_
    refine AllReadyH.cons (ops_at rfl) (fun K hK => ?_) AllReadyH.nil
    go_simp
    refine (bytes_any ap aq D D dn dn cp cq _ HDN.out HDN.out (by unfold maxLen; omega) (by unfold maxLen; omega) (by exact SB.drew.at 8 rfl) (by exact hAq.drewN 1)).mono ?_
    rintro e wa ⟨rfl, na, rfl⟩
    rw [k2]
    have SC := SB.drew.drewN na
    obtain ⟨wq, hwq⟩ : ∃ wq, w9.drew.drewN na = wq := ⟨_, rfl⟩
    rw [hwq] at SC ⊢
    clear hwq
    refine hK.out _ _ (by exact keep SC) (fun hHeld => ?_)
    clear hK K
    try simp only [Act.put, List.setIfInBounds_toArray, List.set_cons_zero, List.set_cons_succ]
    refine wpAnyH_take (i := 22) (v := ?v23) (ops_at rfl) (by kernel_rfl) (by kernel_rfl) (by kernel_rfl) (fun _ _ _ h => h) (Or.inl ⟨by rfl, ?hy23⟩) (by assumption) ?rest23
    case hy23 => intro w' hSw; (try dsimp only at hSw); go_simp; try with_reducible rfl
    try simp only [Act.put, List.setIfInBounds_toArray, List.set_cons_zero, List.set_cons_succ]
    refine wpAnyH_take (i := 23) (v := ?v24) (ops_at rfl) (by kernel_rfl) (by kernel_rfl) (by kernel_rfl) (fun _ _ _ h => h) (Or.inl ⟨by rfl, ?hy24⟩) (by assumption) ?rest24
    case hy24 => intro w' hSw; (try dsimp only at hSw); go_simp; try with_reducible rfl
    try simp only [Act.put, List.setIfInBounds_toArray, List.set_cons_zero, List.set_cons_succ]
    refine wpAnyH_take (i := 24) (v := ?v25) (ops_at rfl) (by kernel_rfl) (by kernel_rfl) (by kernel_rfl) (fun _ _ _ h => h) (Or.inl ⟨by rfl, ?hy25⟩) (by assumption) ?rest25
    case hy25 => intro w' hSw; (try dsimp only at hSw); go_simp; try with_reducible rfl
    try simp only [Act.put, List.setIfInBounds_toArray, List.set_cons_zero, List.set_cons_succ]
    refine wpAnyH_take (i := 25) (v := ?v26) (ops_at rfl) (by kernel_rfl) (by kernel_rfl) (by kernel_rfl) (fun _ _ _ h => h) (Or.inl ⟨by rfl, ?hy26⟩) (by assumption) ?rest26
    case hy26 => intro w' hSw; (try dsimp only at hSw); go_simp; try with_reducible rfl
    try simp only [Act.put, List.setIfInBounds_toArray, List.set_cons_zero, List.set_cons_succ]
    refine wpAnyH_take (i := 27) (v := ?v27) (ops_at rfl) (by kernel_rfl) (by kernel_rfl) (by kernel_rfl) (fun _ _ _ h => h) (Or.inl ⟨by rfl, ?hy27⟩) (by assumption) ?rest27
    case hy27 => intro w' hSw; (try dsimp only at hSw); go_simp; try with_reducible rfl
    try simp only [Act.put, List.setIfInBounds_toArray, List.set_cons_zero, List.set_cons_succ]
    refine wpAnyH_take (i := 28) (v := ?v28) (ops_at rfl) (by kernel_rfl) (by kernel_rfl) (by kernel_rfl) (fun _ _ _ h => h) (Or.inl ⟨by rfl, ?hy28⟩) (by assumption) ?rest28
    case hy28 => intro w' hSw; (try dsimp only at hSw); go_simp; try with_reducible rfl
    try simp only [Act.put, List.setIfInBounds_toArray, List.set_cons_zero, List.set_cons_succ]
    refine wpAnyH_ready (rs := [26]) (by kernel_rfl) (by simp) ?_
    refine AllReadyH.cons (ops_at rfl) (fun K hK => ?_) AllReadyH.nil
    go_simp
    refine (agTell a node _).mono ?_
    rintro e wb ⟨rfl, hbb⟩
    have SD := SC.grow hbb
    rw [show (aTell a node).v = .agg #[.int .i64 (aTell a node).node, .int .i64 (aTell a node).kind, .int .i64 (aTell a node).term, .int .i64 (aTell a node).gen, .int .i64 (aTell a node).job, .int .i64 (aTell a node).inc, .int .i64 (aTell a node).version, .int .i64 (aTell a node).epoch, .int .i64 (aTell a node).until_, .int .i64 (aTell a node).mode, .int .i64 (aTell a node).work] from rfl]
    refine hK.out _ _ (by exact keep SD) (fun hHeld => ?_)
    clear hK K
    try simp only [Act.put, List.setIfInBounds_toArray, List.set_cons_zero, List.set_cons_succ]
    refine wpAnyH_ready (rs := [29]) (by kernel_rfl) (by simp) ?_
    refine AllReadyH.cons (ops_at rfl) (fun K hK => ?_) AllReadyH.nil
    go_simp
    refine (agrTell a node _).mono ?_
    rintro e wc ⟨rfl, hbc⟩
    have SE := SD.grow hbc
    rw [show (aTell a node).v = .agg #[.int .i64 (aTell a node).node, .int .i64 (aTell a node).kind, .int .i64 (aTell a node).term, .int .i64 (aTell a node).gen, .int .i64 (aTell a node).job, .int .i64 (aTell a node).inc, .int .i64 (aTell a node).version, .int .i64 (aTell a node).epoch, .int .i64 (aTell a node).until_, .int .i64 (aTell a node).mode, .int .i64 (aTell a node).work] from rfl]
    refine hK.out _ _ (by exact keep SE) (fun hHeld => ?_)
    clear hK K
    try simp only [Act.put, List.setIfInBounds_toArray, List.set_cons_zero, List.set_cons_succ]
    refine wpAnyH_take (i := 30) (v := ?v31) (ops_at rfl) (by kernel_rfl) (by kernel_rfl) (by kernel_rfl) (fun _ _ _ h => h) (Or.inl ⟨by rfl, ?hy31⟩) (by assumption) ?rest31
    case hy31 => intro w' hSw; (try dsimp only at hSw); go_simp; try with_reducible rfl
    try simp only [Act.put, List.setIfInBounds_toArray, List.set_cons_zero, List.set_cons_succ]
    refine wpAnyH_take (i := 31) (v := ?v32) (ops_at rfl) (by kernel_rfl) (by kernel_rfl) (by kernel_rfl) (fun _ _ _ h => h) (Or.inl ⟨by rfl, ?hy32⟩) (by assumption) ?rest32
    case hy32 => intro w' hSw; (try dsimp only at hSw); go_simp; try with_reducible rfl
    try simp only [Act.put, List.setIfInBounds_toArray, List.set_cons_zero, List.set_cons_succ]
    refine wpAnyH_take (i := 32) (v := ?v33) (ops_at rfl) (by kernel_rfl) (by kernel_rfl) (by kernel_rfl) (fun _ _ _ h => h) (Or.inl ⟨by rfl, ?hy33⟩) (by assumption) ?rest33
    case hy33 => intro w' hSw; (try dsimp only at hSw); go_simp; try with_reducible rfl
    try simp only [Act.put, List.setIfInBounds_toArray, List.set_cons_zero, List.set_cons_succ]
    refine wpAnyH_done (by kernel_rfl) ?_ _
    go_wp2
    go_ret
    exact ⟨rfl, SE.fin⟩
  · have ht : t = aTell b node := HTT.out
    have Ht := hid ht
    clear ht HTT
    go_wp2_with fail
    generalize w9.heap.size + 1 = g16 at *
    generalize w9.heap.size = g14 at *
    generalize (w9.alloc _).alloc _ = w10 at *
    refine (agrTell b node _).mono ?_
    rintro e w11 ⟨rfl, hb11⟩
    rw [← Ht.out]
    unfold Msg.v
    have S15 := S14.grow hb11
    have hst : (storeCells ⟨g16, 0, none⟩ t.cs).run Try.prog w11 = .ok () (w11.setRow g16 t.cs.toArray) := msStore _ _ Msg.zero t (S15.heap 7 rfl)
    have SA : St w _ [soT sv (some s2), rstT h q2, cellsT g4 23 a.cs, cellsT g6 25 m.cs, cellsT g11 23 b.cs, cellsT g12 25 t.cs, cellsT g14 23 b.cs, cellsT g16 25 t.cs] := S15.setRow 7 rfl t.cs.toArray
    clear S15 S14 hb11
    have keep : ∀ {w' : World} {l : List Thing}, St w w' (soT sv (some s2) :: rstT h q2 :: cellsT g4 23 a.cs :: cellsT g6 25 m.cs :: cellsT g11 23 b.cs :: cellsT g12 25 t.cs :: cellsT g14 23 b.cs :: cellsT g16 25 t.cs :: l) → ((w'.cell? ⟨g4, 0, none⟩ = some (.bool a.up) ∧ w'.cell? ⟨g4, 1, none⟩ = some (.int .i64 a.term) ∧ w'.cell? ⟨g4, 2, none⟩ = some (.int .i64 a.gen) ∧ w'.cell? ⟨g4, 3, none⟩ = some (.int .i64 a.mode) ∧ w'.cell? ⟨g4, 4, none⟩ = some (.int .i64 a.job) ∧ w'.cell? ⟨g4, 5, none⟩ = some (.int .i64 a.inc) ∧ w'.cell? ⟨g4, 6, none⟩ = some (.int .i64 a.version) ∧ w'.cell? ⟨g4, 7, none⟩ = some (.int .i64 a.lease) ∧ w'.cell? ⟨g4, 8, none⟩ = some (.int .i64 a.worked) ∧ w'.cell? ⟨g4, 9, none⟩ = some (.int .i64 a.to_)) ∧ (w'.cell? ⟨g11, 0, none⟩ = some (.bool b.up) ∧ w'.cell? ⟨g11, 1, none⟩ = some (.int .i64 b.term) ∧ w'.cell? ⟨g11, 2, none⟩ = some (.int .i64 b.gen) ∧ w'.cell? ⟨g11, 3, none⟩ = some (.int .i64 b.mode) ∧ w'.cell? ⟨g11, 4, none⟩ = some (.int .i64 b.job) ∧ w'.cell? ⟨g11, 5, none⟩ = some (.int .i64 b.inc) ∧ w'.cell? ⟨g11, 6, none⟩ = some (.int .i64 b.version) ∧ w'.cell? ⟨g11, 7, none⟩ = some (.int .i64 b.lease) ∧ w'.cell? ⟨g11, 8, none⟩ = some (.int .i64 b.worked) ∧ w'.cell? ⟨g11, 9, none⟩ = some (.int .i64 b.to_)) ∧ (w'.cell? ⟨g14, 0, none⟩ = some (.bool b.up) ∧ w'.cell? ⟨g14, 1, none⟩ = some (.int .i64 b.term) ∧ w'.cell? ⟨g14, 2, none⟩ = some (.int .i64 b.gen) ∧ w'.cell? ⟨g14, 3, none⟩ = some (.int .i64 b.mode) ∧ w'.cell? ⟨g14, 4, none⟩ = some (.int .i64 b.job) ∧ w'.cell? ⟨g14, 5, none⟩ = some (.int .i64 b.inc) ∧ w'.cell? ⟨g14, 6, none⟩ = some (.int .i64 b.version) ∧ w'.cell? ⟨g14, 7, none⟩ = some (.int .i64 b.lease) ∧ w'.cell? ⟨g14, 8, none⟩ = some (.int .i64 b.worked) ∧ w'.cell? ⟨g14, 9, none⟩ = some (.int .i64 b.to_)) ∧ (w'.cell? ⟨g12, 0, none⟩ = some (.int .i64 t.node) ∧ w'.cell? ⟨g12, 1, none⟩ = some (.int .i64 t.kind) ∧ w'.cell? ⟨g12, 2, none⟩ = some (.int .i64 t.term) ∧ w'.cell? ⟨g12, 3, none⟩ = some (.int .i64 t.gen) ∧ w'.cell? ⟨g12, 4, none⟩ = some (.int .i64 t.job) ∧ w'.cell? ⟨g12, 5, none⟩ = some (.int .i64 t.inc) ∧ w'.cell? ⟨g12, 6, none⟩ = some (.int .i64 t.version) ∧ w'.cell? ⟨g12, 7, none⟩ = some (.int .i64 t.epoch) ∧ w'.cell? ⟨g12, 8, none⟩ = some (.int .i64 t.until_) ∧ w'.cell? ⟨g12, 9, none⟩ = some (.int .i64 t.mode) ∧ w'.cell? ⟨g12, 10, none⟩ = some (.int .i64 t.work)) ∧ (w'.cell? ⟨g16, 0, none⟩ = some (.int .i64 t.node) ∧ w'.cell? ⟨g16, 1, none⟩ = some (.int .i64 t.kind) ∧ w'.cell? ⟨g16, 2, none⟩ = some (.int .i64 t.term) ∧ w'.cell? ⟨g16, 3, none⟩ = some (.int .i64 t.gen) ∧ w'.cell? ⟨g16, 4, none⟩ = some (.int .i64 t.job) ∧ w'.cell? ⟨g16, 5, none⟩ = some (.int .i64 t.inc) ∧ w'.cell? ⟨g16, 6, none⟩ = some (.int .i64 t.version) ∧ w'.cell? ⟨g16, 7, none⟩ = some (.int .i64 t.epoch) ∧ w'.cell? ⟨g16, 8, none⟩ = some (.int .i64 t.until_) ∧ w'.cell? ⟨g16, 9, none⟩ = some (.int .i64 t.mode) ∧ w'.cell? ⟨g16, 10, none⟩ = some (.int .i64 t.work))) := fun S => ⟨S.agAt 2 rfl, S.agAt 4 rfl, S.agAt 6 rfl, S.msg 5 rfl, S.msg 7 rfl⟩
    obtain ⟨⟨x0, x1, x2, x3, x4, x5, x6, x7, x8, x9⟩, -⟩ := keep SA
    (try go_wp2_with fail)
    refine (soGet SA 0 rfl a.job a.inc).mono ?_
    rintro e w9 ⟨ap, cp, rfl, hop, hbp⟩
    rw [show oGet (some s2) a.job a.inc = qGet q2 a.job a.inc from HR2.out.get _ _] at hop ⊢
    have SB : St w w9 [soT sv (some s2), rstT h q2, cellsT g4 23 a.cs, cellsT g6 25 m.cs, cellsT g11 23 b.cs, cellsT g12 25 t.cs, cellsT g14 23 b.cs, cellsT g16 25 t.cs, bytesT _ _] := SA.bytes hop hbp
    clear hop hbp x0 x1 x2 x3 x4 x5 x6 x7 x8 x9 SA
    obtain ⟨⟨x0, x1, x2, x3, x4, x5, x6, x7, x8, x9⟩, -⟩ := keep SB
    have SB' := SB.front 1 rfl
    go_wp2_with fail
    refine (rqGet_any SB' (by omega) a.job a.inc).mono ?_
    rintro e w10 ⟨aq, cq, rfl, hAq, hlq, rfl⟩
    clear SB'
    obtain ⟨O, hO⟩ : ∃ O, qGet q2 a.job a.inc = O := ⟨_, rfl⟩
    rw [hO] at SB hAq hlq ⊢
    have k1 : (O.isSome == O.isSome) = true := by simp
    have k2 : (O.getD [] == O.getD []) = true := by simp
    obtain ⟨D, hD⟩ : ∃ D, O.getD [] = D := ⟨_, rfl⟩
    rw [hD] at SB hAq hlq k2 ⊢
    generalize O.isSome = ob at *
    clear hO hD x0 x1 x2 x3 x4 x5 x6 x7 x8 x9
    obtain ⟨dn, hdn⟩ : ∃ dn, D.length = dn := ⟨_, rfl⟩
    have HDN := hid hdn
    rw [hdn] at SB hlq ⊢
    clear hdn
    go_wp2_with fail
    refine wp_region_held_drew (S := (fun w' => ((w'.cell? ⟨g4, 0, none⟩ = some (.bool a.up) ∧ w'.cell? ⟨g4, 1, none⟩ = some (.int .i64 a.term) ∧ w'.cell? ⟨g4, 2, none⟩ = some (.int .i64 a.gen) ∧ w'.cell? ⟨g4, 3, none⟩ = some (.int .i64 a.mode) ∧ w'.cell? ⟨g4, 4, none⟩ = some (.int .i64 a.job) ∧ w'.cell? ⟨g4, 5, none⟩ = some (.int .i64 a.inc) ∧ w'.cell? ⟨g4, 6, none⟩ = some (.int .i64 a.version) ∧ w'.cell? ⟨g4, 7, none⟩ = some (.int .i64 a.lease) ∧ w'.cell? ⟨g4, 8, none⟩ = some (.int .i64 a.worked) ∧ w'.cell? ⟨g4, 9, none⟩ = some (.int .i64 a.to_)) ∧ (w'.cell? ⟨g11, 0, none⟩ = some (.bool b.up) ∧ w'.cell? ⟨g11, 1, none⟩ = some (.int .i64 b.term) ∧ w'.cell? ⟨g11, 2, none⟩ = some (.int .i64 b.gen) ∧ w'.cell? ⟨g11, 3, none⟩ = some (.int .i64 b.mode) ∧ w'.cell? ⟨g11, 4, none⟩ = some (.int .i64 b.job) ∧ w'.cell? ⟨g11, 5, none⟩ = some (.int .i64 b.inc) ∧ w'.cell? ⟨g11, 6, none⟩ = some (.int .i64 b.version) ∧ w'.cell? ⟨g11, 7, none⟩ = some (.int .i64 b.lease) ∧ w'.cell? ⟨g11, 8, none⟩ = some (.int .i64 b.worked) ∧ w'.cell? ⟨g11, 9, none⟩ = some (.int .i64 b.to_)) ∧ (w'.cell? ⟨g14, 0, none⟩ = some (.bool b.up) ∧ w'.cell? ⟨g14, 1, none⟩ = some (.int .i64 b.term) ∧ w'.cell? ⟨g14, 2, none⟩ = some (.int .i64 b.gen) ∧ w'.cell? ⟨g14, 3, none⟩ = some (.int .i64 b.mode) ∧ w'.cell? ⟨g14, 4, none⟩ = some (.int .i64 b.job) ∧ w'.cell? ⟨g14, 5, none⟩ = some (.int .i64 b.inc) ∧ w'.cell? ⟨g14, 6, none⟩ = some (.int .i64 b.version) ∧ w'.cell? ⟨g14, 7, none⟩ = some (.int .i64 b.lease) ∧ w'.cell? ⟨g14, 8, none⟩ = some (.int .i64 b.worked) ∧ w'.cell? ⟨g14, 9, none⟩ = some (.int .i64 b.to_)) ∧ (w'.cell? ⟨g12, 0, none⟩ = some (.int .i64 t.node) ∧ w'.cell? ⟨g12, 1, none⟩ = some (.int .i64 t.kind) ∧ w'.cell? ⟨g12, 2, none⟩ = some (.int .i64 t.term) ∧ w'.cell? ⟨g12, 3, none⟩ = some (.int .i64 t.gen) ∧ w'.cell? ⟨g12, 4, none⟩ = some (.int .i64 t.job) ∧ w'.cell? ⟨g12, 5, none⟩ = some (.int .i64 t.inc) ∧ w'.cell? ⟨g12, 6, none⟩ = some (.int .i64 t.version) ∧ w'.cell? ⟨g12, 7, none⟩ = some (.int .i64 t.epoch) ∧ w'.cell? ⟨g12, 8, none⟩ = some (.int .i64 t.until_) ∧ w'.cell? ⟨g12, 9, none⟩ = some (.int .i64 t.mode) ∧ w'.cell? ⟨g12, 10, none⟩ = some (.int .i64 t.work)) ∧ (w'.cell? ⟨g16, 0, none⟩ = some (.int .i64 t.node) ∧ w'.cell? ⟨g16, 1, none⟩ = some (.int .i64 t.kind) ∧ w'.cell? ⟨g16, 2, none⟩ = some (.int .i64 t.term) ∧ w'.cell? ⟨g16, 3, none⟩ = some (.int .i64 t.gen) ∧ w'.cell? ⟨g16, 4, none⟩ = some (.int .i64 t.job) ∧ w'.cell? ⟨g16, 5, none⟩ = some (.int .i64 t.inc) ∧ w'.cell? ⟨g16, 6, none⟩ = some (.int .i64 t.version) ∧ w'.cell? ⟨g16, 7, none⟩ = some (.int .i64 t.epoch) ∧ w'.cell? ⟨g16, 8, none⟩ = some (.int .i64 t.until_) ∧ w'.cell? ⟨g16, 9, none⟩ = some (.int .i64 t.mode) ∧ w'.cell? ⟨g16, 10, none⟩ = some (.int .i64 t.work))))) (by kernel_rfl) (by exact keep SB.drew) (fun hHeld => ?_)
    change wpAnyH _ _ _ _ _ 33 (Array.replicate 33 false) _ _
    refine wpAnyH_take (i := 0) (v := ?v34) (ops_at rfl) (by kernel_rfl) (by kernel_rfl) (by kernel_rfl) (fun _ _ _ h => h) (Or.inl ⟨by rfl, ?hy34⟩) (by assumption) ?rest34
    case hy34 => intro w' hSw; (try dsimp only at hSw); go_simp; try with_reducible rfl
    try simp only [Act.put, List.setIfInBounds_toArray, List.set_cons_zero, List.set_cons_succ]
    refine wpAnyH_take (i := 1) (v := ?v35) (ops_at rfl) (by kernel_rfl) (by kernel_rfl) (by kernel_rfl) (fun _ _ _ h => h) (Or.inl ⟨by rfl, ?hy35⟩) (by assumption) ?rest35
    case hy35 => intro w' hSw; (try dsimp only at hSw); go_simp; try with_reducible rfl
    try simp only [Act.put, List.setIfInBounds_toArray, List.set_cons_zero, List.set_cons_succ]
    refine wpAnyH_take (i := 2) (v := ?v36) (ops_at rfl) (by kernel_rfl) (by kernel_rfl) (by kernel_rfl) (fun _ _ _ h => h) (Or.inl ⟨by rfl, ?hy36⟩) (by assumption) ?rest36
    case hy36 => intro w' hSw; (try dsimp only at hSw); go_simp; try with_reducible rfl
    try simp only [Act.put, List.setIfInBounds_toArray, List.set_cons_zero, List.set_cons_succ]
    refine wpAnyH_take (i := 3) (v := ?v37) (ops_at rfl) (by kernel_rfl) (by kernel_rfl) (by kernel_rfl) (fun _ _ _ h => h) (Or.inl ⟨by rfl, ?hy37⟩) (by assumption) ?rest37
    case hy37 => intro w' hSw; (try dsimp only at hSw); go_simp; try with_reducible rfl
    try simp only [Act.put, List.setIfInBounds_toArray, List.set_cons_zero, List.set_cons_succ]
    refine wpAnyH_take (i := 4) (v := ?v38) (ops_at rfl) (by kernel_rfl) (by kernel_rfl) (by kernel_rfl) (fun _ _ _ h => h) (Or.inl ⟨by rfl, ?hy38⟩) (by assumption) ?rest38
    case hy38 => intro w' hSw; (try dsimp only at hSw); go_simp; try with_reducible rfl
    try simp only [Act.put, List.setIfInBounds_toArray, List.set_cons_zero, List.set_cons_succ]
    refine wpAnyH_take (i := 5) (v := ?v39) (ops_at rfl) (by kernel_rfl) (by kernel_rfl) (by kernel_rfl) (fun _ _ _ h => h) (Or.inl ⟨by rfl, ?hy39⟩) (by assumption) ?rest39
    case hy39 => intro w' hSw; (try dsimp only at hSw); go_simp; try with_reducible rfl
    try simp only [Act.put, List.setIfInBounds_toArray, List.set_cons_zero, List.set_cons_succ]
    refine wpAnyH_take (i := 6) (v := ?v40) (ops_at rfl) (by kernel_rfl) (by kernel_rfl) (by kernel_rfl) (fun _ _ _ h => h) (Or.inl ⟨by rfl, ?hy40⟩) (by assumption) ?rest40
    case hy40 => intro w' hSw; (try dsimp only at hSw); go_simp; try with_reducible rfl
    try simp only [Act.put, List.setIfInBounds_toArray, List.set_cons_zero, List.set_cons_succ]
    refine wpAnyH_take (i := 7) (v := ?v41) (ops_at rfl) (by kernel_rfl) (by kernel_rfl) (by kernel_rfl) (fun _ _ _ h => h) (Or.inl ⟨by rfl, ?hy41⟩) (by assumption) ?rest41
    case hy41 => intro w' hSw; (try dsimp only at hSw); go_simp; try with_reducible rfl
    try simp only [Act.put, List.setIfInBounds_toArray, List.set_cons_zero, List.set_cons_succ]
    refine wpAnyH_take (i := 8) (v := ?v42) (ops_at rfl) (by kernel_rfl) (by kernel_rfl) (by kernel_rfl) (fun _ _ _ h => h) (Or.inl ⟨by rfl, ?hy42⟩) (by assumption) ?rest42
    case hy42 => intro w' hSw; (try dsimp only at hSw); go_simp; try with_reducible rfl
    try simp only [Act.put, List.setIfInBounds_toArray, List.set_cons_zero, List.set_cons_succ]
    refine wpAnyH_take (i := 9) (v := ?v43) (ops_at rfl) (by kernel_rfl) (by kernel_rfl) (by kernel_rfl) (fun _ _ _ h => h) (Or.inl ⟨by rfl, ?hy43⟩) (by assumption) ?rest43
    case hy43 => intro w' hSw; (try dsimp only at hSw); go_simp; try with_reducible rfl
    try simp only [Act.put, List.setIfInBounds_toArray, List.set_cons_zero, List.set_cons_succ]
    refine wpAnyH_take (i := 10) (v := ?v44) (ops_at rfl) (by kernel_rfl) (by kernel_rfl) (by kernel_rfl) (fun _ _ _ h => h) (Or.inl ⟨by rfl, ?hy44⟩) (by assumption) ?rest44
    case hy44 => intro w' hSw; (try dsimp only at hSw); go_simp; try with_reducible rfl
    try simp only [Act.put, List.setIfInBounds_toArray, List.set_cons_zero, List.set_cons_succ]
    refine wpAnyH_take (i := 11) (v := ?v45) (ops_at rfl) (by kernel_rfl) (by kernel_rfl) (by kernel_rfl) (fun _ _ _ h => h) (Or.inl ⟨by rfl, ?hy45⟩) (by assumption) ?rest45
    case hy45 => intro w' hSw; (try dsimp only at hSw); go_simp; try with_reducible rfl
    try simp only [Act.put, List.setIfInBounds_toArray, List.set_cons_zero, List.set_cons_succ]
    refine wpAnyH_take (i := 12) (v := ?v46) (ops_at rfl) (by kernel_rfl) (by kernel_rfl) (by kernel_rfl) (fun _ _ _ h => h) (Or.inl ⟨by rfl, ?hy46⟩) (by assumption) ?rest46
    case hy46 => intro w' hSw; (try dsimp only at hSw); go_simp; try with_reducible rfl
    try simp only [Act.put, List.setIfInBounds_toArray, List.set_cons_zero, List.set_cons_succ]
    refine wpAnyH_take (i := 13) (v := ?v47) (ops_at rfl) (by kernel_rfl) (by kernel_rfl) (by kernel_rfl) (fun _ _ _ h => h) (Or.inl ⟨by rfl, ?hy47⟩) (by assumption) ?rest47
    case hy47 => intro w' hSw; (try dsimp only at hSw); go_simp; try with_reducible rfl
    try simp only [Act.put, List.setIfInBounds_toArray, List.set_cons_zero, List.set_cons_succ]
    refine wpAnyH_take (i := 14) (v := ?v48) (ops_at rfl) (by kernel_rfl) (by kernel_rfl) (by kernel_rfl) (fun _ _ _ h => h) (Or.inl ⟨by rfl, ?hy48⟩) (by assumption) ?rest48
    case hy48 => intro w' hSw; (try dsimp only at hSw); go_simp; try with_reducible rfl
    try simp only [Act.put, List.setIfInBounds_toArray, List.set_cons_zero, List.set_cons_succ]
    refine wpAnyH_take (i := 15) (v := ?v49) (ops_at rfl) (by kernel_rfl) (by kernel_rfl) (by kernel_rfl) (fun _ _ _ h => h) (Or.inl ⟨by rfl, ?hy49⟩) (by assumption) ?rest49
    case hy49 => intro w' hSw; (try dsimp only at hSw); go_simp; try with_reducible rfl
    try simp only [Act.put, List.setIfInBounds_toArray, List.set_cons_zero, List.set_cons_succ]
    refine wpAnyH_take (i := 16) (v := ?v50) (ops_at rfl) (by kernel_rfl) (by kernel_rfl) (by kernel_rfl) (fun _ _ _ h => h) (Or.inl ⟨by rfl, ?hy50⟩) (by assumption) ?rest50
    case hy50 => intro w' hSw; (try dsimp only at hSw); go_simp; try with_reducible rfl
    try simp only [Act.put, List.setIfInBounds_toArray, List.set_cons_zero, List.set_cons_succ]
    refine wpAnyH_take (i := 17) (v := ?v51) (ops_at rfl) (by kernel_rfl) (by kernel_rfl) (by kernel_rfl) (fun _ _ _ h => h) (Or.inl ⟨by rfl, ?hy51⟩) (by assumption) ?rest51
    case hy51 => intro w' hSw; (try dsimp only at hSw); go_simp; try with_reducible rfl
    try simp only [Act.put, List.setIfInBounds_toArray, List.set_cons_zero, List.set_cons_succ]
    refine wpAnyH_take (i := 18) (v := ?v52) (ops_at rfl) (by kernel_rfl) (by kernel_rfl) (by kernel_rfl) (fun _ _ _ h => h) (Or.inl ⟨by rfl, ?hy52⟩) (by assumption) ?rest52
    case hy52 => intro w' hSw; (try dsimp only at hSw); go_simp; try with_reducible rfl
    try simp only [Act.put, List.setIfInBounds_toArray, List.set_cons_zero, List.set_cons_succ]
    refine wpAnyH_take (i := 19) (v := ?v53) (ops_at rfl) (by kernel_rfl) (by kernel_rfl) (by kernel_rfl) (fun _ _ _ h => h) (Or.inl ⟨by rfl, ?hy53⟩) (by assumption) ?rest53
    case hy53 => intro w' hSw; (try dsimp only at hSw); go_simp; try with_reducible rfl
    try simp only [Act.put, List.setIfInBounds_toArray, List.set_cons_zero, List.set_cons_succ]
    refine wpAnyH_take (i := 20) (v := ?v54) (ops_at rfl) (by kernel_rfl) (by kernel_rfl) (by kernel_rfl) (fun _ _ _ h => h) (Or.inl ⟨by rfl, ?hy54⟩) (by assumption) ?rest54
    case hy54 => intro w' hSw; (try dsimp only at hSw); go_simp; try with_reducible rfl
    try simp only [Act.put, List.setIfInBounds_toArray, List.set_cons_zero, List.set_cons_succ]
    refine wpAnyH_ready (rs := [21]) (by kernel_rfl) (by simp) ?_
    refine AllReadyH.cons (ops_at rfl) (fun K hK => ?_) AllReadyH.nil
    go_simp
    refine (bytes_any ap aq D D dn dn cp cq _ HDN.out HDN.out (by unfold maxLen; omega) (by unfold maxLen; omega) (by exact SB.drew.at 8 rfl) (by exact hAq.drewN 1)).mono ?_
    rintro e wa ⟨rfl, na, rfl⟩
    rw [k2]
    have SC := SB.drew.drewN na
    obtain ⟨wq, hwq⟩ : ∃ wq, w9.drew.drewN na = wq := ⟨_, rfl⟩
    rw [hwq] at SC ⊢
    clear hwq
    refine hK.out _ _ (by exact keep SC) (fun hHeld => ?_)
    clear hK K
    try simp only [Act.put, List.setIfInBounds_toArray, List.set_cons_zero, List.set_cons_succ]
    refine wpAnyH_take (i := 22) (v := ?v56) (ops_at rfl) (by kernel_rfl) (by kernel_rfl) (by kernel_rfl) (fun _ _ _ h => h) (Or.inl ⟨by rfl, ?hy56⟩) (by assumption) ?rest56
    case hy56 => intro w' hSw; (try dsimp only at hSw); go_simp; try with_reducible rfl
    try simp only [Act.put, List.setIfInBounds_toArray, List.set_cons_zero, List.set_cons_succ]
    refine wpAnyH_take (i := 23) (v := ?v57) (ops_at rfl) (by kernel_rfl) (by kernel_rfl) (by kernel_rfl) (fun _ _ _ h => h) (Or.inl ⟨by rfl, ?hy57⟩) (by assumption) ?rest57
    case hy57 => intro w' hSw; (try dsimp only at hSw); go_simp; try with_reducible rfl
    try simp only [Act.put, List.setIfInBounds_toArray, List.set_cons_zero, List.set_cons_succ]
    refine wpAnyH_take (i := 24) (v := ?v58) (ops_at rfl) (by kernel_rfl) (by kernel_rfl) (by kernel_rfl) (fun _ _ _ h => h) (Or.inl ⟨by rfl, ?hy58⟩) (by assumption) ?rest58
    case hy58 => intro w' hSw; (try dsimp only at hSw); go_simp; try with_reducible rfl
    try simp only [Act.put, List.setIfInBounds_toArray, List.set_cons_zero, List.set_cons_succ]
    refine wpAnyH_take (i := 25) (v := ?v59) (ops_at rfl) (by kernel_rfl) (by kernel_rfl) (by kernel_rfl) (fun _ _ _ h => h) (Or.inl ⟨by rfl, ?hy59⟩) (by assumption) ?rest59
    case hy59 => intro w' hSw; (try dsimp only at hSw); go_simp; try with_reducible rfl
    try simp only [Act.put, List.setIfInBounds_toArray, List.set_cons_zero, List.set_cons_succ]
    refine wpAnyH_take (i := 27) (v := ?v60) (ops_at rfl) (by kernel_rfl) (by kernel_rfl) (by kernel_rfl) (fun _ _ _ h => h) (Or.inl ⟨by rfl, ?hy60⟩) (by assumption) ?rest60
    case hy60 => intro w' hSw; (try dsimp only at hSw); go_simp; try with_reducible rfl
    try simp only [Act.put, List.setIfInBounds_toArray, List.set_cons_zero, List.set_cons_succ]
    refine wpAnyH_take (i := 28) (v := ?v61) (ops_at rfl) (by kernel_rfl) (by kernel_rfl) (by kernel_rfl) (fun _ _ _ h => h) (Or.inl ⟨by rfl, ?hy61⟩) (by assumption) ?rest61
    case hy61 => intro w' hSw; (try dsimp only at hSw); go_simp; try with_reducible rfl
    try simp only [Act.put, List.setIfInBounds_toArray, List.set_cons_zero, List.set_cons_succ]
    refine wpAnyH_ready (rs := [26]) (by kernel_rfl) (by simp) ?_
    refine AllReadyH.cons (ops_at rfl) (fun K hK => ?_) AllReadyH.nil
    go_simp
    refine (agTell a node _).mono ?_
    rintro e wb ⟨rfl, hbb⟩
    have SD := SC.grow hbb
    rw [show (aTell a node).v = .agg #[.int .i64 (aTell a node).node, .int .i64 (aTell a node).kind, .int .i64 (aTell a node).term, .int .i64 (aTell a node).gen, .int .i64 (aTell a node).job, .int .i64 (aTell a node).inc, .int .i64 (aTell a node).version, .int .i64 (aTell a node).epoch, .int .i64 (aTell a node).until_, .int .i64 (aTell a node).mode, .int .i64 (aTell a node).work] from rfl]
    refine hK.out _ _ (by exact keep SD) (fun hHeld => ?_)
    clear hK K
    try simp only [Act.put, List.setIfInBounds_toArray, List.set_cons_zero, List.set_cons_succ]
    refine wpAnyH_ready (rs := [29]) (by kernel_rfl) (by simp) ?_
    refine AllReadyH.cons (ops_at rfl) (fun K hK => ?_) AllReadyH.nil
    go_simp
    refine (agrTell a node _).mono ?_
    rintro e wc ⟨rfl, hbc⟩
    have SE := SD.grow hbc
    rw [show (aTell a node).v = .agg #[.int .i64 (aTell a node).node, .int .i64 (aTell a node).kind, .int .i64 (aTell a node).term, .int .i64 (aTell a node).gen, .int .i64 (aTell a node).job, .int .i64 (aTell a node).inc, .int .i64 (aTell a node).version, .int .i64 (aTell a node).epoch, .int .i64 (aTell a node).until_, .int .i64 (aTell a node).mode, .int .i64 (aTell a node).work] from rfl]
    refine hK.out _ _ (by exact keep SE) (fun hHeld => ?_)
    clear hK K
    try simp only [Act.put, List.setIfInBounds_toArray, List.set_cons_zero, List.set_cons_succ]
    refine wpAnyH_take (i := 30) (v := ?v64) (ops_at rfl) (by kernel_rfl) (by kernel_rfl) (by kernel_rfl) (fun _ _ _ h => h) (Or.inl ⟨by rfl, ?hy64⟩) (by assumption) ?rest64
    case hy64 => intro w' hSw; (try dsimp only at hSw); go_simp; try with_reducible rfl
    try simp only [Act.put, List.setIfInBounds_toArray, List.set_cons_zero, List.set_cons_succ]
    refine wpAnyH_take (i := 31) (v := ?v65) (ops_at rfl) (by kernel_rfl) (by kernel_rfl) (by kernel_rfl) (fun _ _ _ h => h) (Or.inl ⟨by rfl, ?hy65⟩) (by assumption) ?rest65
    case hy65 => intro w' hSw; (try dsimp only at hSw); go_simp; try with_reducible rfl
    try simp only [Act.put, List.setIfInBounds_toArray, List.set_cons_zero, List.set_cons_succ]
    refine wpAnyH_take (i := 32) (v := ?v66) (ops_at rfl) (by kernel_rfl) (by kernel_rfl) (by kernel_rfl) (fun _ _ _ h => h) (Or.inl ⟨by rfl, ?hy66⟩) (by assumption) ?rest66
    case hy66 => intro w' hSw; (try dsimp only at hSw); go_simp; try with_reducible rfl
    try simp only [Act.put, List.setIfInBounds_toArray, List.set_cons_zero, List.set_cons_succ]
    refine wpAnyH_done (by kernel_rfl) ?_ _
    go_wp2
    go_ret
    exact ⟨rfl, SE.fin⟩
end Go.Proofs.Ytchehnkmmmnonaa
