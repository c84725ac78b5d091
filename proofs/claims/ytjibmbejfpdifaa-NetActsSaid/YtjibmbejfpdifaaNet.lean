/- Messages: the walks of net.row, Right, Put and the document's. -/
import Derived.Test.YtjibmbejfpdifaaNetMath
import Derived.Laws.Rows
import Derived.Laws.ResultCell
import Derived.Test.YtjibmbejfpdifaaOpens
namespace Go.Proofs.Ytjibmbejfpdifaa
set_option linter.unusedVariables false
set_option linter.unusedSimpArgs false
open Go.RowKit

theorem getD_in {l : List Int} {k : Nat} (h : k < l.length) : l.getD k 0 = l[k] := by simp [List.getD, h]
/-- A message's cells. -/
def Msg.cs (m : Msg) : List Value := [.int .i64 m.node, .int .i64 m.kind, .int .i64 m.term, .int .i64 m.gen, .int .i64 m.job, .int .i64 m.inc, .int .i64 m.version, .int .i64 m.epoch, .int .i64 m.until_, .int .i64 m.mode, .int .i64 m.work]

set_option maxRecDepth 10000 in
set_option maxHeartbeats 1600000 in
theorem row_any (m : Msg) (w : World) : Calls Try.prog 61 #[.agg #[.int .i64 m.node, .int .i64 m.kind, .int .i64 m.term, .int .i64 m.gen, .int .i64 m.job, .int .i64 m.inc, .int .i64 m.version, .int .i64 m.epoch, .int .i64 m.until_, .int .i64 m.mode, .int .i64 m.work]] w fun e w' => e = .returned (.agg #[.int .i64 m.node, .int .i64 m.kind, .int .i64 m.term, .int .i64 m.gen, .int .i64 m.job, .int .i64 m.inc, .int .i64 m.version, .int .i64 m.epoch, .int .i64 m.until_, .int .i64 m.mode, .int .i64 m.work]) ∧ Below w.heap.size w w' := by
  go_enter Try.func61, Try.ntmps61
  go_wp2
  refine bodyPost_ret (results_cell_row rfl _ _ (w.heap.size + 1) 91 _ (0, 0) (.array 11 3) rfl (heap_alloc2_new w _ _) (by kernel_rfl) rfl (by kernel_rfl)) rfl ⟨rfl, ?_⟩
  exact ((St.start w).alloc _ |>.alloc _).fin
set_option maxRecDepth 10000 in
theorem row_idx (m : Msg) (k : Nat) (hk : k < 11) (wx : World) : (Instr.index 91 (.agg #[.int .i64 m.node, .int .i64 m.kind, .int .i64 m.term, .int .i64 m.gen, .int .i64 m.job, .int .i64 m.inc, .int .i64 m.version, .int .i64 m.epoch, .int .i64 m.until_, .int .i64 m.mode, .int .i64 m.work]) (.int .i64 (k : Int))).run Try.prog wx = .ok (.int .i64 (m.nums.getD k 0)) wx := by
  rcases (show k = 0 ∨ k = 1 ∨ k = 2 ∨ k = 3 ∨ k = 4 ∨ k = 5 ∨ k = 6 ∨ k = 7 ∨ k = 8 ∨ k = 9 ∨ k = 10 by omega) with rfl | rfl | rfl | rfl | rfl | rfl | rfl | rfl | rfl | rfl | rfl <;> rfl
set_option maxRecDepth 10000 in
set_option maxHeartbeats 1600000 in
theorem right_any (m : Msg) (w : World) : Calls Try.prog 16 #[.agg #[.int .i64 m.node, .int .i64 m.kind, .int .i64 m.term, .int .i64 m.gen, .int .i64 m.job, .int .i64 m.inc, .int .i64 m.version, .int .i64 m.epoch, .int .i64 m.until_, .int .i64 m.mode, .int .i64 m.work]] w fun e w' => e = .returned (.bool m.right) ∧ Below w.heap.size w w' := by
  have S0 := (St.start w).newCells 23 #[.int .i64 m.node, .int .i64 m.kind, .int .i64 m.term, .int .i64 m.gen, .int .i64 m.job, .int .i64 m.inc, .int .i64 m.version, .int .i64 m.epoch, .int .i64 m.until_, .int .i64 m.mode, .int .i64 m.work]
  go_enter Try.func16, Try.ntmps16
  go_wp2_with fail
  refine (row_any m _).mono ?_
  rintro e w1 ⟨rfl, hb1⟩
  have S1 := S0.grow hb1
  clear hb1
  go_wp2_with fail
  go_loopw [7] (fun i wr => ∃ k : Nat, k ≤ 11 ∧ i = .int .i64 k ∧ (∀ j, j < k → numOk (m.nums.getD j 0) = true) ∧ St w wr [cellsT w.heap.size 23 m.cs]) (fun i _ => 11 - (intOf i).toNat)
  case atStart => exact ⟨0, Nat.zero_le _, rfl, fun j h => absurd h (Nat.not_lt_zero _), S1⟩
  case round =>
    obtain ⟨k, hk, rfl, hall, Sk⟩ := hrel
    by_cases hlt : k < 11
    · have g0 : decide ((k : Int) < 11) = true := decide_eq_true (by omega)
      have ix := fun wx => row_idx m k hlt wx
      obtain ⟨x, hx⟩ : ∃ x, m.nums.getD k 0 = x := ⟨_, rfl⟩
      rw [hx] at ix
      have HX := hid hx
      have hmem : x ∈ m.nums := by
        rw [← hx, getD_in (show k < m.nums.length from hlt)]
        exact List.getElem_mem _
      have HMem := hid hmem
      clear hx hmem
      by_cases h1 : x < 0
      · have g1 : decide (x < 0) = true := decide_eq_true h1
        have e : Hid (m.right = false) := by
          rw [Hid]; unfold Msg.right
          rw [Bool.and_eq_false_iff]; left
          rw [List.all_eq_false]
          exact ⟨x, HMem.out, by simp [numOk]; omega⟩
        clear h1
        go_wp2
        go_ret
        rw [e.out]
        exact ⟨rfl, Sk.fin⟩
      have g1 : decide (x < 0) = false := decide_eq_false h1
      by_cases h2 : 1000000 < x
      · have g2 : decide (1000000 < x) = true := decide_eq_true h2
        have e : Hid (m.right = false) := by
          rw [Hid]; unfold Msg.right
          rw [Bool.and_eq_false_iff]; left
          rw [List.all_eq_false]
          exact ⟨x, HMem.out, by simp [numOk]; omega⟩
        clear h1 h2
        go_wp2
        go_ret
        rw [e.out]
        exact ⟨rfl, Sk.fin⟩
      have g2 : decide (1000000 < x) = false := decide_eq_false h2
      have HOk : Hid (numOk x = true) := by rw [Hid]; simp [numOk]; omega
      clear h1 h2
      go_wp2
      go_roundw
      case rel => exact ⟨k + 1, by omega, by go_num, fun j hj => by
        rcases Nat.lt_or_ge j k with h | h
        · exact hall j h
        · rw [show j = k by omega, HX.out]; exact HOk.out, Sk⟩
      case measure => simp [intOf]; omega
    · have g0 : decide ((k : Int) < 11) = false := decide_eq_false (by omega)
      have HAll : Hid (m.right = (decide (m.node < 6) && (decide (1 ≤ m.kind) && decide (m.kind ≤ 6)))) := by
        rw [Hid]; unfold Msg.right
        have : m.nums.all numOk = true := by
          rw [List.all_eq_true]
          intro y hy
          obtain ⟨j, hj, rfl⟩ := List.getElem_of_mem hy
          have hj' : j < 11 := hj
          have := hall j (by omega)
          rwa [getD_in hj] at this
        rw [this, Bool.true_and]
      have c0 := Sk.cell 0 rfl 0 rfl
      have c1 := Sk.cell 0 rfl 1 rfl
      clear hall
      by_cases h1 : m.node < 6
      · have g1 : decide (m.node < 6) = true := decide_eq_true h1
        by_cases h2 : 1 ≤ m.kind
        · have g2 : decide (1 ≤ m.kind) = true := decide_eq_true h2
          go_wp2
          go_ret
          rw [HAll.out, decide_eq_true h1, decide_eq_true h2]
          exact ⟨by simp, Sk.fin⟩
        · have g2 : decide (1 ≤ m.kind) = false := decide_eq_false h2
          have e : Hid (m.right = false) := by rw [Hid, HAll.out, g2]; simp
          clear h1 h2
          go_wp2
          go_ret
          rw [e.out]
          exact ⟨rfl, Sk.fin⟩
      · have g1 : decide (m.node < 6) = false := decide_eq_false h1
        have e : Hid (m.right = false) := by rw [Hid, HAll.out, g1]; simp
        clear h1
        go_wp2
        go_ret
        rw [e.out]
        exact ⟨rfl, Sk.fin⟩

theorem St.msg {w0 w : World} {l : List Thing} (S : St w0 w l) (k : Nat) {g : Nat} {T : TypeId} {m : Msg} (h : l[k]? = some (cellsT g T m.cs)) :
    w.cell? ⟨g, 0, none⟩ = some (.int .i64 m.node) ∧ w.cell? ⟨g, 1, none⟩ = some (.int .i64 m.kind) ∧ w.cell? ⟨g, 2, none⟩ = some (.int .i64 m.term) ∧ w.cell? ⟨g, 3, none⟩ = some (.int .i64 m.gen) ∧ w.cell? ⟨g, 4, none⟩ = some (.int .i64 m.job) ∧ w.cell? ⟨g, 5, none⟩ = some (.int .i64 m.inc) ∧ w.cell? ⟨g, 6, none⟩ = some (.int .i64 m.version) ∧ w.cell? ⟨g, 7, none⟩ = some (.int .i64 m.epoch) ∧ w.cell? ⟨g, 8, none⟩ = some (.int .i64 m.until_) ∧ w.cell? ⟨g, 9, none⟩ = some (.int .i64 m.mode) ∧ w.cell? ⟨g, 10, none⟩ = some (.int .i64 m.work) :=
  ⟨S.cell k h 0 rfl, S.cell k h 1 rfl, S.cell k h 2 rfl, S.cell k h 3 rfl, S.cell k h 4 rfl, S.cell k h 5 rfl, S.cell k h 6 rfl, S.cell k h 7 rfl, S.cell k h 8 rfl, S.cell k h 9 rfl, S.cell k h 10 rfl⟩
theorem Msg.cs_get (m : Msg) {k : Nat} (hk : k < m.nums.length) : m.cs[k]? = some (.int .i64 m.nums[k]) := by
  have hk' : k < 11 := hk
  rcases (show k = 0 ∨ k = 1 ∨ k = 2 ∨ k = 3 ∨ k = 4 ∨ k = 5 ∨ k = 6 ∨ k = 7 ∨ k = 8 ∨ k = 9 ∨ k = 10 by omega) with rfl | rfl | rfl | rfl | rfl | rfl | rfl | rfl | rfl | rfl | rfl <;> rfl
theorem St.nums {w0 w : World} {l : List Thing} (S : St w0 w l) (i : Nat) {g : Nat} {T : TypeId} {m : Msg} (h : l[i]? = some (cellsT g T m.cs)) : AtG eI w (some ⟨g, 0, none⟩) m.nums := by
  intro k hk
  refine ⟨rfl, fun u hu => ?_⟩
  have hu0 : u = 0 := by have : u < 1 := hu; omega
  subst hu0
  have := S.cell i h k (m.cs_get hk)
  have e : adr (some ⟨g, 0, none⟩) (k * eI.s + 0) = ⟨g, k, none⟩ := by
    show adr (some ⟨g, 0, none⟩) (k * 1 + 0) = _
    simp [adr, Addr.add_lit]
  rw [e, this]
  rfl
set_option maxRecDepth 10000 in
set_option maxHeartbeats 1600000 in
theorem netPut_any (m : Msg) (w : World) : Calls Try.prog 19 #[.agg #[.int .i64 m.node, .int .i64 m.kind, .int .i64 m.term, .int .i64 m.gen, .int .i64 m.job, .int .i64 m.inc, .int .i64 m.version, .int .i64 m.epoch, .int .i64 m.until_, .int .i64 m.mode, .int .i64 m.work]] w fun e w' => ∃ a c, e = .returned (.slice a (putM m).length c) ∧ Own w' w.heap.size (.slice a (putM m).length c) (putM m) ∧ Below w.heap.size w w' := by
  have S0 := (St.start w).newCells 23 #[.int .i64 m.node, .int .i64 m.kind, .int .i64 m.term, .int .i64 m.gen, .int .i64 m.job, .int .i64 m.inc, .int .i64 m.version, .int .i64 m.epoch, .int .i64 m.until_, .int .i64 m.mode, .int .i64 m.work]
  by_cases hr : m.right = true
  case neg =>
    have HR : Hid (m.right = false) := by rw [Hid]; simpa using hr
    have e0 : Hid (putM m = []) := by rw [Hid]; unfold putM; rw [if_neg hr]
    clear hr
    go_enter Try.func19, Try.ntmps19
    go_wp2_with fail
    refine (right_any m _).mono ?_
    rintro e w1 ⟨rfl, hb1⟩
    rw [HR.out]
    have S1 := S0.grow hb1
    clear hb1
    go_wp2
    go_ret
    rw [e0.out]
    exact ⟨_, _, rfl, Own.nil _ _, S1.fin⟩
  have HR := hid hr
  have HP : Hid (putM m = frameB (codeList m.nums)) := by rw [Hid]; unfold putM; rw [if_pos hr]
  have hcl := Msg.codeLen hr
  clear hr
  rw [HP.out]
  go_enter Try.func19, Try.ntmps19
  go_wp2_with fail
  refine (right_any m _).mono ?_
  rintro e w1 ⟨rfl, hb1⟩
  rw [HR.out]
  have S1 : St w w1 [cellsT w.heap.size 23 m.cs] := S0.grow hb1
  obtain ⟨z0, z1, z2, z3, z4, z5, z6, z7, z8, z9, z10⟩ := S1.msg 0 rfl
  clear hb1
  go_wp2_with fail
  refine (row_any m _).mono ?_
  rintro e w2 ⟨rfl, hb2⟩
  have S2 := (S1.grow hb2).newCells 91 #[.int .i64 m.node, .int .i64 m.kind, .int .i64 m.term, .int .i64 m.gen, .int .i64 m.job, .int .i64 m.inc, .int .i64 m.version, .int .i64 m.epoch, .int .i64 m.until_, .int .i64 m.mode, .int .i64 m.work]
  have S2' : St w (w2.alloc (.cells #[.int .i64 m.node, .int .i64 m.kind, .int .i64 m.term, .int .i64 m.gen, .int .i64 m.job, .int .i64 m.inc, .int .i64 m.version, .int .i64 m.epoch, .int .i64 m.until_, .int .i64 m.mode, .int .i64 m.work] 91)) [cellsT w.heap.size 23 m.cs, cellsT w2.heap.size 91 m.cs] := S2
  clear S2 hb2 z0 z1 z2 z3 z4 z5 z6 z7 z8 z9 z10
  have HNm := hid (S2'.nums 1 rfl)
  go_wp2_with fail
  refine (list_any (some ⟨w2.heap.size, 0, none⟩) m.nums 11 11 _ rfl (by omega) (by exact HNm.out)).mono ?_
  rintro e w3 ⟨v3, rfl, ho3, hb3⟩
  obtain ⟨n3, hn3⟩ : ∃ n3, (codeList m.nums).length = n3 := ⟨_, rfl⟩
  rw [hn3] at hcl
  have HN3 := hid hn3
  clear hn3
  obtain ⟨a3, c3, rfl⟩ := ho3.written HN3.out
  have S3 := (S2'.bytes ho3 hb3).rot
  have hs3 := S3.slA 0 rfl
  clear ho3 hb3
  go_wp2_with fail
  refine (frPut_any a3 (codeList m.nums) n3 c3 w3 HN3.out (by unfold maxLen; omega) hs3.2.1 hs3.2.2.2.1 (by exact hs3.2.2.2.2)).mono ?_
  rintro e w4 ⟨a4, c4, rfl, ho4, hb4⟩
  have S4 := S3.grow hb4
  have HO4 := hid ho4
  have hsz := S3.size
  clear ho4 hb4
  go_wp2
  go_ret
  exact ⟨a4, c4, rfl, HO4.out.base hsz, S4.fin⟩
set_option maxRecDepth 10000 in
set_option maxHeartbeats 1600000 in
theorem numbers_any (m : Msg) (w : World) : Calls Try.prog 62 #[.agg #[.int .i64 m.node, .int .i64 m.kind, .int .i64 m.term, .int .i64 m.gen, .int .i64 m.job, .int .i64 m.inc, .int .i64 m.version, .int .i64 m.epoch, .int .i64 m.until_, .int .i64 m.mode, .int .i64 m.work]] w fun e w' => ∃ a c, e = .returned (.slice a 11 c) ∧ OwnG eI w' w.heap.size (.slice a 11 c) m.nums ∧ Below w.heap.size w w' := by
  go_enter Try.func62, Try.ntmps62
  go_wp2
  go_ret
  refine ⟨_, _, rfl, ?_, ((St.start w).alloc _ |>.alloc _).fin⟩
  have h : OwnG eI ((w.alloc (.cells #[.int .i64 m.node, .int .i64 m.kind, .int .i64 m.term, .int .i64 m.gen, .int .i64 m.job, .int .i64 m.inc, .int .i64 m.version, .int .i64 m.epoch, .int .i64 m.until_, .int .i64 m.mode, .int .i64 m.work] 23)).alloc (.cells #[.int .i64 m.node, .int .i64 m.kind, .int .i64 m.term, .int .i64 m.gen, .int .i64 m.job, .int .i64 m.inc, .int .i64 m.version, .int .i64 m.epoch, .int .i64 m.until_, .int .i64 m.mode, .int .i64 m.work] 3)) w.heap.size (.slice (some ⟨(w.alloc (.cells #[.int .i64 m.node, .int .i64 m.kind, .int .i64 m.term, .int .i64 m.gen, .int .i64 m.job, .int .i64 m.inc, .int .i64 m.version, .int .i64 m.epoch, .int .i64 m.until_, .int .i64 m.mode, .int .i64 m.work] 23)).heap.size, 0, none⟩) 11 11) m.nums := ownG_new eIok (w.alloc (.cells #[.int .i64 m.node, .int .i64 m.kind, .int .i64 m.term, .int .i64 m.gen, .int .i64 m.job, .int .i64 m.inc, .int .i64 m.version, .int .i64 m.epoch, .int .i64 m.until_, .int .i64 m.mode, .int .i64 m.work] 23)) w.heap.size m.nums #[.int .i64 m.node, .int .i64 m.kind, .int .i64 m.term, .int .i64 m.gen, .int .i64 m.job, .int .i64 m.inc, .int .i64 m.version, .int .i64 m.epoch, .int .i64 m.until_, .int .i64 m.mode, .int .i64 m.work] 11 rfl rfl (by rw [Msg.numsLen2]; unfold maxLen; omega) (by simp)
  simpa using h
set_option maxRecDepth 10000 in
set_option maxHeartbeats 1600000 in
theorem rright_any (m : Msg) (w : World) : Calls Try.prog 17 #[.agg #[.int .i64 m.node, .int .i64 m.kind, .int .i64 m.term, .int .i64 m.gen, .int .i64 m.job, .int .i64 m.inc, .int .i64 m.version, .int .i64 m.epoch, .int .i64 m.until_, .int .i64 m.mode, .int .i64 m.work]] w fun e w' => e = .returned (.bool m.right) ∧ Below w.heap.size w w' := by
  have S0 := (St.start w).newCells 23 #[.int .i64 m.node, .int .i64 m.kind, .int .i64 m.term, .int .i64 m.gen, .int .i64 m.job, .int .i64 m.inc, .int .i64 m.version, .int .i64 m.epoch, .int .i64 m.until_, .int .i64 m.mode, .int .i64 m.work]
  go_enter Try.func17, Try.ntmps17
  go_wp2_with fail
  refine (numbers_any m _).mono ?_
  rintro e w1 ⟨a1, c1, rfl, ho1, hb1⟩
  have S1 : St w w1 [cellsT w.heap.size 23 m.cs, ownT eI (.slice a1 11 c1) m.nums] := S0.own ho1 hb1
  clear ho1 hb1
  go_wp2_with fail
  go_loopw [4] (fun i wr => ∃ k : Nat, k ≤ 11 ∧ i = .int .i64 k ∧ (∀ j, j < k → numOk (m.nums.getD j 0) = true) ∧ St w wr [cellsT w.heap.size 23 m.cs, ownT eI (.slice a1 11 c1) m.nums]) (fun i _ => 11 - (intOf i).toNat)
  case atStart => exact ⟨0, Nat.zero_le _, rfl, fun j h => absurd h (Nat.not_lt_zero _), S1⟩
  case round =>
    obtain ⟨k, hk, rfl, hall, Sk⟩ := hrel
    have HIn := hid (Sk.slG eIok 1 rfl)
    by_cases hlt : k < 11
    · have hkl : k < m.nums.length := hlt
      have i0 := fun wx => idxI a1 11 c1 (fun h => HIn.out.2.2.2.2.ok (by show 0 < 11; omega)) k k rfl hlt wx
      have x0 : wr.cell? (adr a1 k) = some (.int .i64 m.nums[k]) := by
        have := (HIn.out.2.2.2.2 k hkl).2 0 (by decide)
        rwa [show k * eI.s + 0 = k from Nat.mul_one k] at this
      have hx : m.nums.getD k 0 = m.nums[k] := getD_in hkl
      have HMem := hid (List.getElem_mem hkl)
      generalize m.nums[k] = x at *
      have HX := hid hx
      clear hx
      by_cases h1 : x < 0
      · have g1 : decide (x < 0) = true := decide_eq_true h1
        have e : Hid (m.right = false) := by
          rw [Hid]; unfold Msg.right
          rw [Bool.and_eq_false_iff]; left
          rw [List.all_eq_false]
          exact ⟨x, HMem.out, by simp [numOk]; omega⟩
        clear h1
        go_wp2
        go_ret
        rw [e.out]
        exact ⟨rfl, Sk.fin⟩
      have g1 : decide (x < 0) = false := decide_eq_false h1
      by_cases h2 : 1000000 < x
      · have g2 : decide (1000000 < x) = true := decide_eq_true h2
        have e : Hid (m.right = false) := by
          rw [Hid]; unfold Msg.right
          rw [Bool.and_eq_false_iff]; left
          rw [List.all_eq_false]
          exact ⟨x, HMem.out, by simp [numOk]; omega⟩
        clear h1 h2
        go_wp2
        go_ret
        rw [e.out]
        exact ⟨rfl, Sk.fin⟩
      have g2 : decide (1000000 < x) = false := decide_eq_false h2
      have HOk : Hid (numOk x = true) := by rw [Hid]; simp [numOk]; omega
      clear h1 h2
      go_wp2
      go_roundw
      case rel => exact ⟨k + 1, by omega, by go_num, fun j hj => by
        rcases Nat.lt_or_ge j k with h | h
        · exact hall j h
        · rw [show j = k by omega, HX.out]; exact HOk.out, Sk⟩
      case measure => simp [intOf]; omega
    · have HAll : Hid (m.right = (decide (m.node < 6) && (decide (1 ≤ m.kind) && decide (m.kind ≤ 6)))) := by
        rw [Hid]; unfold Msg.right
        have : m.nums.all numOk = true := by
          rw [List.all_eq_true]
          intro y hy
          obtain ⟨j, hj, rfl⟩ := List.getElem_of_mem hy
          have hj' : j < 11 := hj
          have := hall j (by omega)
          rwa [getD_in hj] at this
        rw [this, Bool.true_and]
      have c0 := Sk.cell 0 rfl 0 rfl
      have c1 := Sk.cell 0 rfl 1 rfl
      clear hall
      by_cases h1 : m.node < 6
      · have g1 : decide (m.node ≤ 5) = true := decide_eq_true (by omega)
        by_cases h2 : 1 ≤ m.kind
        · have g2 : decide (1 ≤ m.kind) = true := decide_eq_true h2
          go_wp2
          go_ret
          rw [HAll.out, decide_eq_true h1, decide_eq_true h2]
          exact ⟨by simp, Sk.fin⟩
        · have g2 : decide (1 ≤ m.kind) = false := decide_eq_false h2
          have e : Hid (m.right = false) := by rw [Hid, HAll.out, g2]; simp
          clear h1 h2
          go_wp2
          go_ret
          rw [e.out]
          exact ⟨rfl, Sk.fin⟩
      · have g1 : decide (m.node ≤ 5) = false := decide_eq_false (by omega)
        have e : Hid (m.right = false) := by rw [Hid, HAll.out, decide_eq_false h1]; simp
        clear h1
        go_wp2
        go_ret
        rw [e.out]
        exact ⟨rfl, Sk.fin⟩
set_option maxRecDepth 10000 in
set_option maxHeartbeats 1600000 in
theorem rnetPut_any (m : Msg) (w : World) : Calls Try.prog 20 #[.agg #[.int .i64 m.node, .int .i64 m.kind, .int .i64 m.term, .int .i64 m.gen, .int .i64 m.job, .int .i64 m.inc, .int .i64 m.version, .int .i64 m.epoch, .int .i64 m.until_, .int .i64 m.mode, .int .i64 m.work]] w fun e w' => ∃ a c, e = .returned (.slice a (putM m).length c) ∧ Own w' w.heap.size (.slice a (putM m).length c) (putM m) ∧ Below w.heap.size w w' := by
  have S0 := (St.start w).newCells 23 #[.int .i64 m.node, .int .i64 m.kind, .int .i64 m.term, .int .i64 m.gen, .int .i64 m.job, .int .i64 m.inc, .int .i64 m.version, .int .i64 m.epoch, .int .i64 m.until_, .int .i64 m.mode, .int .i64 m.work]
  by_cases hr : m.right = true
  case neg =>
    have HR : Hid (m.right = false) := by rw [Hid]; simpa using hr
    have e0 : Hid (putM m = []) := by rw [Hid]; unfold putM; rw [if_neg hr]
    clear hr
    go_enter Try.func20, Try.ntmps20
    go_wp2_with fail
    refine (rright_any m _).mono ?_
    rintro e w1 ⟨rfl, hb1⟩
    rw [HR.out]
    have S1 := S0.grow hb1
    clear hb1
    go_wp2
    go_ret
    rw [e0.out]
    exact ⟨_, _, rfl, Own.nil _ _, S1.fin⟩
  have HR := hid hr
  have HP : Hid (putM m = frameB (codeList m.nums)) := by rw [Hid]; unfold putM; rw [if_pos hr]
  have hcl := Msg.codeLen hr
  clear hr
  rw [HP.out]
  go_enter Try.func20, Try.ntmps20
  go_wp2_with fail
  refine (rright_any m _).mono ?_
  rintro e w1 ⟨rfl, hb1⟩
  rw [HR.out]
  have S1 : St w w1 [cellsT w.heap.size 23 m.cs] := S0.grow hb1
  obtain ⟨z0, z1, z2, z3, z4, z5, z6, z7, z8, z9, z10⟩ := S1.msg 0 rfl
  clear hb1
  go_wp2_with fail
  refine (numbers_any m _).mono ?_
  rintro e w2 ⟨a2, c2, rfl, ho2, hb2⟩
  have S2 : St w w2 [cellsT w.heap.size 23 m.cs, ownT eI (.slice a2 11 c2) m.nums] := S1.own ho2 hb2
  clear ho2 hb2 z0 z1 z2 z3 z4 z5 z6 z7 z8 z9 z10
  have HNm := hid (S2.slG eIok 1 rfl)
  go_wp2_with fail
  refine (rlist_any a2 m.nums 11 c2 _ rfl (by omega) (by exact HNm.out.2.2.2.2)).mono ?_
  rintro e w3 ⟨v3, rfl, ho3, hb3⟩
  obtain ⟨n3, hn3⟩ : ∃ n3, (codeList m.nums).length = n3 := ⟨_, rfl⟩
  rw [hn3] at hcl
  have HN3 := hid hn3
  clear hn3
  obtain ⟨a3, c3, rfl⟩ := ho3.written HN3.out
  have S3 := (S2.bytes ho3 hb3).rot
  have hs3 := S3.slA 0 rfl
  clear ho3 hb3
  go_wp2_with fail
  refine (rfrPut_any a3 (codeList m.nums) n3 c3 w3 HN3.out (by omega) (by exact hs3.2.2.2.2)).mono ?_
  rintro e w4 ⟨a4, c4, rfl, ho4, hb4⟩
  have S4 := S3.grow hb4
  have HO4 := hid ho4
  have hsz := S3.size
  clear ho4 hb4
  go_wp2
  go_ret
  exact ⟨a4, c4, rfl, HO4.out.base hsz, S4.fin⟩

end Go.Proofs.Ytjibmbejfpdifaa
