/- Watch: the example's first state; Free. -/
import Derived.Test.YtilobmefomoemaaWatchEx
namespace Go.Proofs.Ytilobmefomoemaa
set_option linter.unusedVariables false
set_option linter.unusedSimpArgs false
open Go.RowKit
theorem res_state {fn : Func} {p : Tmp} (h : fn.results = #[.cell p 25]) (tmps : Array Value) (w : World) (g : Nat) (cs : Array Value) (hp : tmps.getD p undef = .pointer (some ⟨g, 0, none⟩)) (hg : w.heap[g]? = some (.cells cs 25 (0, 0))) (hs : cs.size = 6) :
    (results fn tmps).run Try.prog w = .ok (.agg cs) w := by
  have hi : (Try.prog.info? 25).map (·.size) = some 6 := by kernel_rfl
  exact results_cell_row h tmps w g 25 cs (0, 0) _ hp hg Try.underlying25 rfl (by rw [hi, hs])
def nodeK (k : Nat) : List ND := List.replicate k xN
set_option maxRecDepth 10000 in
set_option maxHeartbeats 6400000 in
theorem xNew (w : World) : Calls Try.prog 19 #[.agg #[.int .i64 1, .int .i64 1, .int .i64 0, .int .i64 1, .int .i64 2, .int .i64 1, .int .i64 1, .int .i64 0, .int .i64 2000]] w fun e w' => ∃ na nc, e = .returned (.agg #[.slice na 1 nc, .slice none 0 0, .int .i64 1, .int .i64 1, .int .i64 0, .int .i64 0]) ∧ OwnG eND w' w.heap.size (.slice na 1 nc) [xN] ∧ Below w.heap.size w w' := by
  have S1 : St w _ [cellsT w.heap.size 38 (#[.int .i64 1, .int .i64 1, .int .i64 0, .int .i64 1, .int .i64 2, .int .i64 1, .int .i64 1, .int .i64 0, .int .i64 2000] : Array Value).toList, cellsT (w.heap.size + 1) 25 (#[.slice none 0 0, .slice none 0 0, .int .i64 0, .int .i64 0, .int .i64 0, .int .i64 0] : Array Value).toList] := ((St.start w).newAt 38 #[.int .i64 1, .int .i64 1, .int .i64 0, .int .i64 1, .int .i64 2, .int .i64 1, .int .i64 1, .int .i64 0, .int .i64 2000] w.heap.size rfl).newAt 25 #[.slice none 0 0, .slice none 0 0, .int .i64 0, .int .i64 0, .int .i64 0, .int .i64 0] (w.heap.size + 1) (alloc_size _ _)
  obtain ⟨B0, hB0⟩ : ∃ B0, w.heap.size = B0 := ⟨_, rfl⟩
  have HB0 := hid hB0
  clear hB0
  go_enter Try.func19, Try.ntmps19
  go_wp2_with fail
  generalize w.heap.size + 1 = g2 at *
  generalize (w.alloc _).alloc _ = w1 at *
  refine (xMay _).mono ?_
  rintro e w2 ⟨rfl, hb2⟩
  have S2 := S1.grow hb2
  have c0 := S2.cell 0 rfl 0 rfl
  clear S1 hb2
  have S3 : St w _ [ownT eND (.slice none 0 0) [], cellsT w2.heap.size 25 (#[.slice none 0 0, .slice none 0 0, .int .i64 1, .int .i64 1, .int .i64 0, .int .i64 0] : Array Value).toList, cellsT w.heap.size 38 (#[.int .i64 1, .int .i64 1, .int .i64 0, .int .i64 1, .int .i64 2, .int .i64 1, .int .i64 1, .int .i64 0, .int .i64 2000] : Array Value).toList, cellsT g2 25 (#[.slice none 0 0, .slice none 0 0, .int .i64 0, .int .i64 0, .int .i64 0, .int .i64 0] : Array Value).toList] := ((newAtG S2 25 #[.slice none 0 0, .slice none 0 0, .int .i64 1, .int .i64 1, .int .i64 0, .int .i64 0] _ rfl).rot.nilG eND).rot
  have c0b := S3.cell 2 rfl 0 rfl
  go_wp2_with fail
  generalize w2.heap.size = g3 at *
  generalize w2.alloc _ = w3 at *
  clear S2 c0 c0b
  go_loopw [11] (fun i wr => ∃ (k : Nat) (a : Option Addr) (q : Nat), k ≤ 1 ∧ i = .int .i64 k ∧ St w wr [ownT eND (.slice a k q) (nodeK k), cellsT g3 25 (#[.slice a k q, .slice none 0 0, .int .i64 1, .int .i64 1, .int .i64 0, .int .i64 0] : Array Value).toList, cellsT w.heap.size 38 (#[.int .i64 1, .int .i64 1, .int .i64 0, .int .i64 1, .int .i64 2, .int .i64 1, .int .i64 1, .int .i64 0, .int .i64 2000] : Array Value).toList, cellsT g2 25 (#[.slice none 0 0, .slice none 0 0, .int .i64 0, .int .i64 0, .int .i64 0, .int .i64 0] : Array Value).toList]) (fun i _ => 1 - (intOf i).toNat)
  case atStart => exact ⟨0, none, 0, by decide, rfl, S3⟩
  case round =>
    obtain ⟨k, a, q, hk, rfl, Sk⟩ := hrel
    clear S3
    rcases (show k = 0 ∨ k = 1 by omega) with rfl | rfl
    · have d0 := Sk.cell 1 rfl 0 rfl
      go_wp2_with (at_builtin; refine wpList_app (by rfl) (.tmp 14) (.tmp 16) eND.T eND.T eND.T rfl rfl _ _ rfl rfl (Sk.appG1 eNDok wr.heap.size rfl 0 rfl xN _ (by rfl) 1 rfl (by decide) (by unfold maxLen; omega)) ?_; rintro v5 w5 ⟨⟨a5, c5, rfl⟩, S5⟩; have f5 := S5.frozen 1 rfl 0; have d5 := S5.cell 1 rfl 0 rfl)
      have S6 := S5.setCell 1 rfl 0 (.slice a5 1 c5)
      go_roundw
      case rel => exact ⟨1, a5, c5, by decide, rfl, S6⟩
      case measure => simp [intOf]
    · obtain ⟨z0, z1, z2, z3, z4, z5⟩ := And.intro (Sk.cell 1 rfl 0 rfl) (And.intro (Sk.cell 1 rfl 1 rfl) (And.intro (Sk.cell 1 rfl 2 rfl) (And.intro (Sk.cell 1 rfl 3 rfl) (And.intro (Sk.cell 1 rfl 4 rfl) (Sk.cell 1 rfl 5 rfl)))))
      obtain ⟨f0, f1, f2, f3, f4, f5⟩ := And.intro (Sk.frozen 3 rfl 0) (And.intro (Sk.frozen 3 rfl 1) (And.intro (Sk.frozen 3 rfl 2) (And.intro (Sk.frozen 3 rfl 3) (And.intro (Sk.frozen 3 rfl 4) (Sk.frozen 3 rfl 5)))))
      obtain ⟨y0, y1, y2, y3, y4, y5⟩ := And.intro (Sk.cell 3 rfl 0 rfl) (And.intro (Sk.cell 3 rfl 1 rfl) (And.intro (Sk.cell 3 rfl 2 rfl) (And.intro (Sk.cell 3 rfl 3 rfl) (And.intro (Sk.cell 3 rfl 4 rfl) (Sk.cell 3 rfl 5 rfl)))))
      have SX := ((((((Sk.setCell 3 rfl 0 (.slice a 1 q)).setCell 3 rfl 1 (.slice none 0 0)).setCell 3 rfl 2 (.int .i64 1)).setCell 3 rfl 3 (.int .i64 1)).setCell 3 rfl 4 (.int .i64 0)).setCell 3 rfl 5 (.int .i64 0))
      go_wp2
      refine bodyPost_ret (res_state rfl _ _ g2 _ rfl (by exact SX.heap 3 rfl) rfl) rfl ?_
      obtain ⟨F, ⟨ho, -⟩, -⟩ := SX.step 0 rfl
      exact ⟨a, q, rfl, ho, SX.fin⟩
def freeK (L : List AG) (now : Int) : Nat → List Int
  | 0 => []
  | k + 1 => freeK L now k ++ (match L[k]? with | some x => if aFenced x now = true then [(k : Int)] else [] | none => [])
theorem freeK_le (L : List AG) (now : Int) : ∀ k, (freeK L now k).length ≤ k
  | 0 => Nat.le_refl _
  | k + 1 => by
    have := freeK_le L now k
    rw [freeK, List.length_append]
    cases L[k]? with
    | none => simp; omega
    | some x => by_cases h : aFenced x now = true <;> simp [h] <;> omega
set_option maxRecDepth 10000 in
set_option maxHeartbeats 6400000 in
theorem wtFree (a : Option Addr) (L : List AG) (n cap : Nat) (now : Int) (w : World) (hn : L.length = n) (hm : n ≤ 1000000) (hA : AtG eAG w a L) :
    Calls Try.prog 12 #[.slice a n cap, .int .i64 now] w fun e w' => ∃ p c, e = .returned (.slice p (freeK L now n).length c) ∧ OwnG eI w' w.heap.size (.slice p (freeK L now n).length c) (freeK L now n) ∧ Below w.heap.size w w' := by
  have HN := hid hn
  have HA := hid hA
  have S0 : St w w [ownT eI (.slice none 0 0) []] := (St.start w).nilG eI
  clear hn hA
  go_enter Try.func12, Try.ntmps12
  go_wp2_with fail
  go_loopw [5, 10] (fun v i wr => ∃ (k : Nat) (p : Option Addr) (c : Nat), k ≤ n ∧ v = .slice p (freeK L now k).length c ∧ i = .int .i64 k ∧ St w wr [ownT eI (.slice p (freeK L now k).length c) (freeK L now k)]) (fun _ i _ => n - (intOf i).toNat)
  case atStart => exact ⟨0, none, 0, Nat.zero_le _, rfl, rfl, S0⟩
  case round =>
    obtain ⟨k, p, c, hk, rfl, rfl, Sk⟩ := hrel
    clear S0
    by_cases hlt : k < n
    case neg =>
      have g0 : decide ((k : Int) < (n : Int)) = false := decide_eq_false (by omega)
      have g0n : decide (k < n) = false := decide_eq_false (by omega)
      have e : Hid (k = n) := by rw [Hid]; omega
      clear hlt hk
      go_wp2
      go_ret
      obtain ⟨F, ⟨ho, -⟩, -⟩ := Sk.step 0 rfl
      exact ⟨p, c, by rw [← e.out]; rfl, by rw [← e.out]; exact ho, Sk.fin⟩
    have g0 : decide ((k : Int) < (n : Int)) = true := decide_eq_true (by omega)
    have g0n : decide (k < n) = true := decide_eq_true (by omega)
    have hkl : k < L.length := by rw [HN.out]; exact hlt
    have hAk : AtG eAG wr a L := HA.out.all eAGok Sk.fin
    have i0 := fun wx => idxAG a n cap (fun h => hAk.ok (by omega)) k hlt wx
    obtain ⟨y0, y1, y2, y3, y4, y5, y6, y7, y8, y9⟩ := hAk.agAt hkl
    have HSt : Hid (freeK L now (k + 1) = freeK L now k ++ if aFenced L[k] now = true then [(k : Int)] else []) := by rw [Hid, freeK, List.getElem?_eq_getElem hkl]
    have hml := freeK_le L now k
    generalize L[k] = x at *
    generalize adr a (k * 10) = A at *
    clear hAk
    have S2 := Sk.alloc (.cells #[.bool x.up, .int .i64 x.term, .int .i64 x.gen, .int .i64 x.mode, .int .i64 x.job, .int .i64 x.inc, .int .i64 x.version, .int .i64 x.lease, .int .i64 x.worked, .int .i64 x.to_] 31)
    go_wp2_with fail
    generalize wr.alloc _ = w2 at *
    refine (agFenced x now _).mono ?_
    rintro e w3 ⟨rfl, hb3⟩
    have S3 := S2.grow hb3
    clear S2 Sk hb3 y0 y1 y2 y3 y4 y5 y6 y7 y8 y9
    cases hf : aFenced x now
    · have E : Hid (freeK L now (k + 1) = freeK L now k) := by rw [Hid, HSt.out, hf]; simp
      clear HSt hf
      go_wp2
      go_roundw
      case rel => exact ⟨k + 1, p, c, by omega, by rw [E.out], by go_num, by rw [E.out]; exact S3⟩
      case measure => simp [intOf]; omega
    · have E : Hid (freeK L now (k + 1) = freeK L now k ++ [(k : Int)]) := by rw [Hid, HSt.out, hf]; simp
      obtain ⟨N, hN1⟩ : ∃ N, (freeK L now k).length + 1 = N := ⟨_, rfl⟩
      have HN1 := hid hN1
      have HN2 : Hid ((freeK L now (k + 1)).length = N) := by rw [Hid, E.out, List.length_append, ← hN1]; rfl
      clear HSt hf
      go_wp2_with (at_builtin; refine wpList_app (by rfl) (.tmp 18) (.tmp 20) eI.T eI.T eI.T rfl rfl _ _ rfl rfl (S3.appG1 eIok w3.heap.size rfl 0 rfl (k : Int) _ (by rfl) N HN1.out (by show _ * 8 ≤ _; omega) (by unfold maxLen; omega)) ?_; rintro v4 w4 ⟨⟨a4, c4, rfl⟩, S4⟩)
      go_roundw
      case rel => exact ⟨k + 1, a4, c4, by omega, by rw [HN2.out], by go_num, by rw [HN2.out, E.out]; exact S4⟩
      case measure => simp [intOf]; omega
end Go.Proofs.Ytilobmefomoemaa
