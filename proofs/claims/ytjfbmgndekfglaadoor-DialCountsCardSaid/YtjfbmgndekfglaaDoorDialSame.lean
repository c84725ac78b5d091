/- Same: of dials that are the same. -/
import Derived.Test.YtjfbmgndekfglaaDoorDialRefOf
import Derived.ChangeKeysEq
namespace Go.Proofs.YtjfbmgndekfglaaDoor
set_option linter.unusedVariables false
set_option linter.unusedSimpArgs false
open Go.RowKit
theorem eqItems_same (d : Nat) (xs : Array Value) (w : World) : ∀ is : List Nat, (∀ i ∈ is, ∃ n : Int, xs[i]? = some (.int .i64 n)) → (Op.eqItems (d + 1) 3 1 xs xs is).run Tryd.prog w = .ok true w
  | [], _ => by simp [Op.eqItems]
  | i :: is, h => by
    obtain ⟨n, hn⟩ := h i (by simp)
    have ih := eqItems_same d xs w is (fun j hj => h j (by simp [hj]))
    rw [Op.eqItems]
    simp only [Sem.run_bind, Nat.mul_one, part_int w hn, Result.andThen_ok, run_equalIn_int w d 3 .i64 .i64 n n intT]
    simp [ih]
theorem neArr (x : Q5) (w : World) : (binOp .neq 37 (.agg #[.int .i64 x.a, .int .i64 x.b, .int .i64 x.c, .int .i64 x.d, .int .i64 x.e]) (.agg #[.int .i64 x.a, .int .i64 x.b, .int .i64 x.c, .int .i64 x.d, .int .i64 x.e])).run Tryd.prog w = .ok (.bool false) w := by
  obtain ⟨i, hi⟩ := info_of_underlying (P := Tryd.prog) intT
  have hc : Tryd.prog.cellsOf 3 = 1 := by kernel_rfl
  rw [run_neq_struct, run_equalIn_array w 9999 _ _ (show Tryd.prog.underlying 37 = some (.array 5 3) by kernel_rfl) hi, hc, show List.range 5 = [0, 1, 2, 3, 4] from rfl, eqItems_same 9998 _ w _ ?_]
  · rfl
  · intro i hi
    simp only [List.mem_cons, List.not_mem_nil, or_false] at hi
    rcases hi with rfl | rfl | rfl | rfl | rfl
    · exact ⟨x.a, rfl⟩
    · exact ⟨x.b, rfl⟩
    · exact ⟨x.c, rfl⟩
    · exact ⟨x.d, rfl⟩
    · exact ⟨x.e, rfl⟩
structure QAt (w : World) (p : Addr) (x : Q5) : Prop where
  c0 : w.cell? p = some (.int .i64 x.a)
  c1 : w.cell? { block := p.block, off := p.off + 1 } = some (.int .i64 x.b)
  c2 : w.cell? { block := p.block, off := p.off + 2 } = some (.int .i64 x.c)
  c3 : w.cell? { block := p.block, off := p.off + 3 } = some (.int .i64 x.d)
  c4 : w.cell? { block := p.block, off := p.off + 4 } = some (.int .i64 x.e)
theorem AtG.qAt {w : World} {a : Option Addr} {l : List Q5} (h : AtG eQ w a l) {k : Nat} (hk : k < l.length) : QAt w (adr a (k * 5)) l[k] := by
  have hj : ∀ j, j < 5 → w.cell? ((adr a (k * 5)).add j) = (eQ.enc l[k])[j]? := by
    intro j hj
    have := (h k hk).2 j hj
    rw [show eQ.s = 5 from rfl, ← adr_two] at this
    exact this
  exact ⟨hj 0 (by decide), hj 1 (by decide), hj 2 (by decide), hj 3 (by decide), hj 4 (by decide)⟩
set_option maxRecDepth 10000 in
set_option maxHeartbeats 3200000 in
theorem r27Same (d : DI) (a b : Option Addr) (n ca cb : Nat) (R : List Q5) (w : World) (hn : R.length = n) (hn6 : n ≤ 1000000) (hA : AtG eQ w a R) (hB : AtG eQ w b R) :
    Calls Tryd.prog 8 #[.agg #[.int .i64 d.up, .int .i64 d.cord, .int .i64 d.mov, .int .i64 d.beh, .int .i64 d.free, .slice a n ca, .int .i64 d.end_, .int .i64 d.share], .agg #[.int .i64 d.up, .int .i64 d.cord, .int .i64 d.mov, .int .i64 d.beh, .int .i64 d.free, .slice b n cb, .int .i64 d.end_, .int .i64 d.share]] w fun e w' => e = .returned (.bool true) ∧ Below w.heap.size w w' := by
  have S2 : St w _ [cellsT w.heap.size 34 (DI.cs d (.slice a n ca)), cellsT (w.heap.size + 1) 34 (DI.cs d (.slice b n cb))] := ((St.start w).newAt 34 #[.int .i64 d.up, .int .i64 d.cord, .int .i64 d.mov, .int .i64 d.beh, .int .i64 d.free, .slice a n ca, .int .i64 d.end_, .int .i64 d.share] w.heap.size rfl).newAt 34 #[.int .i64 d.up, .int .i64 d.cord, .int .i64 d.mov, .int .i64 d.beh, .int .i64 d.free, .slice b n cb, .int .i64 d.end_, .int .i64 d.share] (w.heap.size + 1) (alloc_size _ _)
  have HA := hid hA
  have HB := hid hB
  clear hA hB
  have e0 : ((n : Int) != (n : Int)) = false := by simp
  have e1 : (d.up != d.up) = false := by simp
  have e2 : (d.cord != d.cord) = false := by simp
  have e3 : (d.mov != d.mov) = false := by simp
  have e4 : (d.beh != d.beh) = false := by simp
  have e5 : (d.free != d.free) = false := by simp
  have e6 : (d.end_ != d.end_) = false := by simp
  have e7 : (d.share != d.share) = false := by simp
  go_enter Tryd.func8, Tryd.ntmps8
  go_wp2_with fail
  generalize w.heap.size + 1 = g2 at *
  generalize w.heap.size = g1 at S2 ⊢
  generalize (w.alloc _).alloc _ = w1 at *
  go_loopw [5] (fun i wr => ∃ (k : Nat), k ≤ n ∧ i = .int .i64 k ∧ St w wr [cellsT g1 34 (DI.cs d (.slice a n ca)), cellsT g2 34 (DI.cs d (.slice b n cb))]) (fun i _ => n - (intOf i).toNat)
  case atStart => exact ⟨0, Nat.zero_le _, rfl, S2⟩
  case round =>
    obtain ⟨k, hk, rfl, Sk⟩ := hrel
    clear S2 e0 e1 e2 e3 e4 e5 e6 e7
    have c5 := Sk.cell 0 rfl 5 rfl
    by_cases hlt : k < n
    case neg =>
      have d1 : decide ((k : Int) < (n : Int)) = false := decide_eq_false (by omega)
      have d1n : decide (k < n) = false := decide_eq_false hlt
      go_wp2
      go_ret
      exact ⟨rfl, Sk.fin⟩
    have d1 : decide ((k : Int) < (n : Int)) = true := decide_eq_true (by omega)
    have d1n : decide (k < n) = true := decide_eq_true hlt
    have hkl : k < R.length := by omega
    have hwk : IntKind.i64.wrap ((k : Int) + 1) = (k : Int) + 1 := by rw [IntKind.wrap_i64]; omega
    have i0 := fun wx => idxQ a n ca (fun h => HA.out.ok (by omega)) k (k : Int) rfl hlt wx
    have i1 := fun wx => idxQ b n cb (fun h => HB.out.ok (by omega)) k (k : Int) rfl hlt wx
    have QA := (HA.out.all eQok Sk.drew.fin).qAt hkl
    have QB := (HB.out.all eQok Sk.drew.fin).qAt hkl
    generalize R[k] = x at *
    generalize adr a (k * 5) = A at *
    generalize adr b (k * 5) = B at *
    obtain ⟨x0, x1, x2, x3, x4⟩ := QA
    obtain ⟨y0, y1, y2, y3, y4⟩ := QB
    have hne := fun wx => neArr x wx
    go_wp2_with fail
    clear c5
    refine wp_region_held_drew (S := (fun w' => w'.cell? ⟨g1, 5, none⟩ = some (.slice a n ca) ∧ w'.cell? ⟨g2, 5, none⟩ = some (.slice b n cb) ∧ w'.cell? A = some (.int .i64 x.a) ∧ w'.cell? { block := A.block, off := A.off + 1 } = some (.int .i64 x.b) ∧ w'.cell? { block := A.block, off := A.off + 2 } = some (.int .i64 x.c) ∧ w'.cell? { block := A.block, off := A.off + 3 } = some (.int .i64 x.d) ∧ w'.cell? { block := A.block, off := A.off + 4 } = some (.int .i64 x.e) ∧ w'.cell? B = some (.int .i64 x.a) ∧ w'.cell? { block := B.block, off := B.off + 1 } = some (.int .i64 x.b) ∧ w'.cell? { block := B.block, off := B.off + 2 } = some (.int .i64 x.c) ∧ w'.cell? { block := B.block, off := B.off + 3 } = some (.int .i64 x.d) ∧ w'.cell? { block := B.block, off := B.off + 4 } = some (.int .i64 x.e))) (by kernel_rfl) (by exact ⟨Sk.drew.cell 0 rfl 5 rfl, Sk.drew.cell 1 rfl 5 rfl, x0, x1, x2, x3, x4, y0, y1, y2, y3, y4⟩) (fun hHeld => ?_)
    change wpAnyH _ _ _ _ _ 11 (Array.replicate 11 false) _ _
    refine wpAnyH_take (i := 0) (v := ?v1) (ops_at rfl) (by kernel_rfl) (by kernel_rfl) (by kernel_rfl) (fun _ _ _ h => h) (Or.inl ⟨by rfl, ?hy1⟩) (by assumption) ?rest1
    case hy1 => intro w' hSw; (try dsimp only at hSw); go_simp; try with_reducible rfl
    try simp only [Act.put, List.setIfInBounds_toArray, List.set_cons_zero, List.set_cons_succ]
    refine wpAnyH_take (i := 1) (v := ?v2) (ops_at rfl) (by kernel_rfl) (by kernel_rfl) (by kernel_rfl) (fun _ _ _ h => h) (Or.inl ⟨by rfl, ?hy2⟩) (by assumption) ?rest2
    case hy2 => intro w' hSw; (try dsimp only at hSw); go_simp; try with_reducible rfl
    try simp only [Act.put, List.setIfInBounds_toArray, List.set_cons_zero, List.set_cons_succ]
    refine wpAnyH_take (i := 2) (v := ?v3) (ops_at rfl) (by kernel_rfl) (by kernel_rfl) (by kernel_rfl) (fun _ _ _ h => h) (Or.inl ⟨by rfl, ?hy3⟩) (by assumption) ?rest3
    case hy3 => intro w' hSw; (try dsimp only at hSw); go_simp; try with_reducible rfl
    try simp only [Act.put, List.setIfInBounds_toArray, List.set_cons_zero, List.set_cons_succ]
    refine wpAnyH_take (i := 3) (v := ?v4) (ops_at rfl) (by kernel_rfl) (by kernel_rfl) (by kernel_rfl) (fun _ _ _ h => h) (Or.inl ⟨by rfl, ?hy4⟩) (by assumption) ?rest4
    case hy4 => intro w' hSw; (try dsimp only at hSw); go_simp; try with_reducible rfl
    try simp only [Act.put, List.setIfInBounds_toArray, List.set_cons_zero, List.set_cons_succ]
    refine wpAnyH_take (i := 4) (v := ?v5) (ops_at rfl) (by kernel_rfl) (by kernel_rfl) (by kernel_rfl) (fun _ _ _ h => h) (Or.inl ⟨by rfl, ?hy5⟩) (by assumption) ?rest5
    case hy5 => intro w' hSw; (try dsimp only at hSw); go_simp; try with_reducible rfl
    try simp only [Act.put, List.setIfInBounds_toArray, List.set_cons_zero, List.set_cons_succ]
    refine wpAnyH_take (i := 5) (v := ?v6) (ops_at rfl) (by kernel_rfl) (by kernel_rfl) (by kernel_rfl) (fun _ _ _ h => h) (Or.inl ⟨by rfl, ?hy6⟩) (by assumption) ?rest6
    case hy6 => intro w' hSw; (try dsimp only at hSw); go_simp; try with_reducible rfl
    try simp only [Act.put, List.setIfInBounds_toArray, List.set_cons_zero, List.set_cons_succ]
    refine wpAnyH_take (i := 6) (v := ?v7) (ops_at rfl) (by kernel_rfl) (by kernel_rfl) (by kernel_rfl) (fun _ _ _ h => h) (Or.inl ⟨by rfl, ?hy7⟩) (by assumption) ?rest7
    case hy7 => intro w' hSw; (try dsimp only at hSw); go_simp; try with_reducible rfl
    try simp only [Act.put, List.setIfInBounds_toArray, List.set_cons_zero, List.set_cons_succ]
    refine wpAnyH_take (i := 7) (v := ?v8) (ops_at rfl) (by kernel_rfl) (by kernel_rfl) (by kernel_rfl) (fun _ _ _ h => h) (Or.inl ⟨by rfl, ?hy8⟩) (by assumption) ?rest8
    case hy8 => intro w' hSw; (try dsimp only at hSw); go_simp; try with_reducible rfl
    try simp only [Act.put, List.setIfInBounds_toArray, List.set_cons_zero, List.set_cons_succ]
    refine wpAnyH_take (i := 8) (v := ?v9) (ops_at rfl) (by kernel_rfl) (by kernel_rfl) (by kernel_rfl) (fun _ _ _ h => h) (Or.inl ⟨by rfl, ?hy9⟩) (by assumption) ?rest9
    case hy9 => intro w' hSw; (try dsimp only at hSw); go_simp; try with_reducible rfl
    try simp only [Act.put, List.setIfInBounds_toArray, List.set_cons_zero, List.set_cons_succ]
    refine wpAnyH_take (i := 9) (v := ?v10) (ops_at rfl) (by kernel_rfl) (by kernel_rfl) (by kernel_rfl) (fun _ _ _ h => h) (Or.inl ⟨by rfl, ?hy10⟩) (by assumption) ?rest10
    case hy10 => intro w' hSw; (try dsimp only at hSw); go_simp; try with_reducible rfl
    try simp only [Act.put, List.setIfInBounds_toArray, List.set_cons_zero, List.set_cons_succ]
    refine wpAnyH_take (i := 10) (v := ?v11) (ops_at rfl) (by kernel_rfl) (by kernel_rfl) (by kernel_rfl) (fun _ _ _ h => h) (Or.inl ⟨by rfl, ?hy11⟩) (by assumption) ?rest11
    case hy11 => intro w' hSw; (try dsimp only at hSw); go_simp; try with_reducible rfl
    try simp only [Act.put, List.setIfInBounds_toArray, List.set_cons_zero, List.set_cons_succ]
    refine wpAnyH_done (by kernel_rfl) ?_ _
    go_wp2
    go_roundw
    case rel => exact ⟨k + 1, by omega, by go_num, Sk.drew⟩
    case measure => simp [intOf]; omega
end Go.Proofs.YtjfbmgndekfglaaDoor
