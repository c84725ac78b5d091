/- The statements of layer 12: alive, messages held against each other. -/
import Derived.Test.YtjibmbejfpdifaaNet8
import Derived.Test.YtjibmbejfpdifaaEqs
namespace Go.Proofs.Ytjibmbejfpdifaa
set_option linter.unusedVariables false
set_option linter.unusedSimpArgs false
open Go.RowKit
def Msg.eq (m x : Msg) : Bool := decide (m.nums = x.nums)
theorem Msg.eq_iff (m x : Msg) : m.eq x = true ↔ m = x := by
  unfold Msg.eq
  rw [decide_eq_true_iff]
  refine ⟨fun h => ?_, fun h => by rw [h]⟩
  rw [← Msg.of_nums m, h, Msg.of_nums]
theorem Msg.eq_self (m : Msg) : m.eq m = true := (Msg.eq_iff m m).2 rfl
theorem eqM (m x : Msg) (w : World) : (binOp .eql 23 (.agg #[.int .i64 m.node, .int .i64 m.kind, .int .i64 m.term, .int .i64 m.gen, .int .i64 m.job, .int .i64 m.inc, .int .i64 m.version, .int .i64 m.epoch, .int .i64 m.until_, .int .i64 m.mode, .int .i64 m.work]) (.agg #[.int .i64 x.node, .int .i64 x.kind, .int .i64 x.term, .int .i64 x.gen, .int .i64 x.job, .int .i64 x.inc, .int .i64 x.version, .int .i64 x.epoch, .int .i64 x.until_, .int .i64 x.mode, .int .i64 x.work])).run Try.prog w = .ok (.bool (m.eq x)) w :=
  eqInts 11 (by kernel_rfl) (by kernel_rfl) (by kernel_rfl) (by kernel_rfl) m.nums x.nums rfl rfl w
theorem neM (m x : Msg) (w : World) : (binOp .neq 23 (.agg #[.int .i64 m.node, .int .i64 m.kind, .int .i64 m.term, .int .i64 m.gen, .int .i64 m.job, .int .i64 m.inc, .int .i64 m.version, .int .i64 m.epoch, .int .i64 m.until_, .int .i64 m.mode, .int .i64 m.work]) (.agg #[.int .i64 x.node, .int .i64 x.kind, .int .i64 x.term, .int .i64 x.gen, .int .i64 x.job, .int .i64 x.inc, .int .i64 x.version, .int .i64 x.epoch, .int .i64 x.until_, .int .i64 x.mode, .int .i64 x.work])).run Try.prog w = .ok (.bool (!m.eq x)) w :=
  neInts 11 (by kernel_rfl) (by kernel_rfl) (by kernel_rfl) (by kernel_rfl) m.nums x.nums rfl rfl w
def mA : Msg := ⟨0, 1, 300, 0, 0, 0, 0, 0, 0, 0, 0⟩
theorem mA_right : mA.right = true := by rfl
def sA1 : NS := ⟨[⟨mA, none⟩], 1⟩
def sA2 : NS := ⟨[⟨mA, none⟩, ⟨mA, none⟩], 1⟩
theorem sA_1 : nSend ⟨[], 0⟩ mA = (true, sA1) := by unfold nSend; rw [if_pos ⟨by decide, mA_right⟩]; rfl
theorem sA_2 : nTwice sA1 0 = (true, sA2) := rfl
theorem sA_3 : nDeliver sA2 1 = (some mA, sA1) := rfl
theorem sA_4 : nList sA1 = [mA] := rfl
theorem sA_5 : nFlip sA1 0 3 = (true, ⟨[⟨mA, some 3⟩], 1⟩) := by
  have h := (putM_len mA_right).1
  unfold nFlip
  rw [if_pos ⟨by decide, by refine ⟨by omega, ?_⟩; show _ < ((putM mA).length : Int); omega, rfl⟩]
  rfl
theorem sA_6 : nDrop ⟨[⟨mA, some 3⟩], 1⟩ 0 = (true, ⟨[], 1⟩) := rfl
theorem St.newAt {w0 w : World} {l : List Thing} (S : St w0 w l) (T : TypeId) (cs : Array Value) (g : Nat) (hg : w.heap.size = g) : St w0 (w.alloc (.cells cs T)) (l ++ [cellsT g T cs.toList]) := hg ▸ S.newCells T cs
theorem alloc_size (w : World) (o : Obj) : (w.alloc o).heap.size = w.heap.size + 1 := by show (Array.push _ _).size = _; simp
set_option maxRecDepth 100000 in
set_option maxHeartbeats 3200000 in
theorem alive12_any (w : World) : Calls Try.prog 13 #[] w fun e w' => e = .returned (.bool true) ∧ Below w.heap.size w w' := by
  have S0 : St w (w.alloc (.cells #[.slice none 0 0, .int .i64 0] 47)) [netT w.heap.size ⟨[], 0⟩] := (St.start w).netNew
  have S1 : St w ((w.alloc (.cells #[.slice none 0 0, .int .i64 0] 47)).alloc (.cells #[.int .i64 0, .int .i64 1, .int .i64 300, .int .i64 0, .int .i64 0, .int .i64 0, .int .i64 0, .int .i64 0, .int .i64 0, .int .i64 0, .int .i64 0] 23)) [netT w.heap.size ⟨[], 0⟩, cellsT (w.heap.size + 1) 23 mA.cs] := S0.newAt _ _ _ (alloc_size _ _)
  have E1 := hid sA_1
  have E2 := hid sA_2
  have E3 := hid sA_3
  have E4 := hid sA_4
  have E5 := hid sA_5
  have E6 := hid sA_6
  have ER := hid mA_right
  have EP := hid (getM_put mA_right)
  have EL := hid (putM_len mA_right)
  have q1 : Hid (∀ wx, (binOp .eql 23 (.agg mA.cs.toArray) (.agg mA.cs.toArray)).run Try.prog wx = .ok (.bool true) wx) := fun wx => by
    have := eqM mA mA wx
    rw [Msg.eq_self] at this
    exact this
  clear S0
  go_enter Try.func13, Try.ntmps13
  go_wp2_with fail
  refine (hnSend S1 0 rfl (by decide) mA).mono ?_
  rintro e w1 ⟨rfl, S2⟩
  rw [E1.out] at S2 ⊢
  have S2' : St w w1 [netT w.heap.size sA1, cellsT (w.heap.size + 1) 23 mA.cs] := S2
  clear S1 S2
  go_wp2_with fail
  refine (hnTwice S2' 0 rfl 0).mono ?_
  rintro e w2 ⟨rfl, S3⟩
  rw [E2.out] at S3 ⊢
  have S3' : St w w2 [netT w.heap.size sA2, cellsT (w.heap.size + 1) 23 mA.cs] := S3
  clear S2' S3
  go_wp2_with fail
  refine (hnDeliver S3' 0 rfl 1).mono ?_
  rintro e w3 ⟨hp, S4⟩
  rw [E3.out] at S4 hp
  have S4' : St w w3 [netT w.heap.size sA1, cellsT (w.heap.size + 1) 23 mA.cs] := S4
  simp only [GetMPost] at hp
  subst hp
  have S5 : St w (w3.alloc (.cells #[.int .i64 mA.node, .int .i64 mA.kind, .int .i64 mA.term, .int .i64 mA.gen, .int .i64 mA.job, .int .i64 mA.inc, .int .i64 mA.version, .int .i64 mA.epoch, .int .i64 mA.until_, .int .i64 mA.mode, .int .i64 mA.work] 23)) [netT w.heap.size sA1, cellsT (w.heap.size + 1) 23 mA.cs, cellsT w3.heap.size 23 mA.cs] := S4'.newAt _ _ _ rfl
  clear S3' S4 S4'
  obtain ⟨z0, z1, z2, z3, z4, z5, z6, z7, z8, z9, z10⟩ := S5.msg 1 rfl
  go_wp2_with fail
  refine (netPut_any mA _).mono ?_
  rintro e w6 ⟨a6, c6, rfl, ho6, hb6⟩
  have S6 := S5.bytes ho6 hb6
  have h6 := S6.slA 3 rfl
  clear ho6 hb6 z0 z1 z2 z3 z4 z5 z6 z7 z8 z9 z10 S5
  go_wp2_with fail
  refine (netGet_any a6 (putM mA) (putM mA).length c6 w6 rfl (by have := EL.out; omega) h6.2.1 h6.2.2.2.2).mono ?_
  rintro e w7 ⟨hp, hb7⟩
  rw [EP.out] at hp
  simp only [GetMPost] at hp
  subst hp
  have S7 : St w (w7.alloc (.cells #[.int .i64 mA.node, .int .i64 mA.kind, .int .i64 mA.term, .int .i64 mA.gen, .int .i64 mA.job, .int .i64 mA.inc, .int .i64 mA.version, .int .i64 mA.epoch, .int .i64 mA.until_, .int .i64 mA.mode, .int .i64 mA.work] 23)) [netT w.heap.size sA1, cellsT (w.heap.size + 1) 23 mA.cs, cellsT w3.heap.size 23 mA.cs, bytesT (.slice a6 (putM mA).length c6) (putM mA), cellsT w7.heap.size 23 mA.cs] := (S6.grow hb7).newAt _ _ _ rfl
  clear S6 hb7 h6
  obtain ⟨x0, x1, x2, x3, x4, x5, x6, x7, x8, x9, x10⟩ := S7.msg 1 rfl
  obtain ⟨y0, y1, y2, y3, y4, y5, y6, y7, y8, y9, y10⟩ := S7.msg 2 rfl
  obtain ⟨z0, z1, z2, z3, z4, z5, z6, z7, z8, z9, z10⟩ := S7.msg 4 rfl
  go_wp2_with fail
  refine (hnLen S7 0 rfl).mono ?_
  rintro e w8 ⟨rfl, rfl⟩
  go_wp2_with fail
  refine (hnSent S7 0 rfl).mono ?_
  rintro e w8 ⟨rfl, rfl⟩
  go_wp2_with fail
  refine (hnList S7 0 rfl 1 rfl).mono ?_
  rintro e w8 ⟨a8, c8, rfl, S8⟩
  have S8' : St w w8 [netT w.heap.size sA1, cellsT (w.heap.size + 1) 23 mA.cs] := S8.take 2
  clear S7 x0 x1 x2 x3 x4 x5 x6 x7 x8 x9 x10 y0 y1 y2 y3 y4 y5 y6 y7 y8 y9 y10 z0 z1 z2 z3 z4 z5 z6 z7 z8 z9 z10 S8
  obtain ⟨x0, x1, x2, x3, x4, x5, x6, x7, x8, x9, x10⟩ := S8'.msg 1 rfl
  go_wp2_with fail
  refine (right_any mA _).mono ?_
  rintro e w9 ⟨rfl, hb9⟩
  rw [ER.out]
  have S9 := S8'.grow hb9
  clear S8' hb9 x0 x1 x2 x3 x4 x5 x6 x7 x8 x9 x10
  go_wp2_with fail
  refine (right_any Msg.zero _).mono ?_
  rintro e w10 ⟨rfl, hb10⟩
  rw [show Msg.zero.right = false from rfl]
  have S10 := S9.grow hb10
  clear S9 hb10
  go_wp2_with fail
  refine (hnFlip S10 0 rfl 0 3 (by decide)).mono ?_
  rintro e w11 ⟨rfl, S11⟩
  rw [E5.out] at S11 ⊢
  have S11' : St w w11 [netT w.heap.size ⟨[⟨mA, some 3⟩], 1⟩, cellsT (w.heap.size + 1) 23 mA.cs] := S11
  go_wp2_with fail
  refine (hnDrop S11' 0 rfl 0).mono ?_
  rintro e w12 ⟨rfl, S12⟩
  rw [E6.out]
  go_wp2
  go_ret
  exact ⟨rfl, S12.fin⟩

end Go.Proofs.Ytjibmbejfpdifaa
