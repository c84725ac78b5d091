/- dial.Of. -/
import Derived.Test.YtjfbmgndekfglaaDoorDialQ
import Derived.Test.YtjfbmgndekfglaaDoorHeld
import Derived.Deep.CutRange
namespace Go.Proofs.YtjfbmgndekfglaaDoor
set_option linter.unusedVariables false
set_option linter.unusedSimpArgs false
open Go.RowKit
def rightN (s : STA) (x : ND) : Bool := x.up && (x.version == s.meant)
def diK (s : STA) (now : Int) (k : Nat) : DI := ⟨cntP (·.up) s.N k, cntP (·.cordon) s.N k, cntP (·.moving) s.N k, (behK s s.nn).length, cntP (·.free) s.N k, now, 100⟩
def shareP (r u : Int) : Int := if 0 < u then r * 100 / u else 100
def dialD (s : STA) (now : Int) : DI := ⟨cntP (·.up) s.N s.nn, cntP (·.cordon) s.N s.nn, cntP (·.moving) s.N s.nn, (behK s s.nn).length, cntP (·.free) s.N s.nn, endK s now s.jn, shareP (cntP (rightN s) s.N s.nn) (cntP (·.up) s.N s.nn)⟩
theorem bI_le (b : Bool) : 0 ≤ bI b ∧ bI b ≤ 1 := by cases b <;> decide
theorem St.swap34 {w0 w : World} {a b c x y : Thing} (S : St w0 w [a, b, c, x, y]) : St w0 w [a, b, c, y, x] := (((S.front 4 rfl).front 3 rfl).front 3 rfl).front 3 rfl |> fun T => by
  have T2 : St w0 w [y, x] := ((S.front 3 rfl).front 4 rfl).take 2
  exact ((((S.front 3 rfl).front 4 rfl).front 4 rfl).front 4 rfl).front 4 rfl
theorem res_dial {fn : Func} {p : Tmp} (h : fn.results = #[.cell p 34]) (tmps : Array Value) (w : World) (g : Nat) (cs : Array Value) (hp : tmps.getD p undef = .pointer (some ⟨g, 0, none⟩)) (hg : w.heap[g]? = some (.cells cs 34 (0, 0))) (hs : cs.size = 8) :
    (results fn tmps).run Tryd.prog w = .ok (.agg cs) w := by
  have hi : (Tryd.prog.info? 34).map (·.size) = some 8 := by kernel_rfl
  exact results_cell_row h tmps w g 34 cs (0, 0) _ hp hg Tryd.underlying34 rfl (by rw [hi, hs])
theorem wpAnyZ_two {P : Program} {ops : Array Oper} {Q : Exit → Act → World → Prop} {md : Region.Mode} {S : World → Prop} {z : Nat} {i j : Nat} {o u : Oper} {n : Nat} {l : Array Bool} {a : Act} {w : World} (hr : Region.ready md ops l = [i, j]) (ho : ops[i]? = some o) (hu : ops[j]? = some u)
    (h : ∀ K' : Act → World → Prop, Shut (∀ a w, S w → (S w → wpAnyZ P md ops Q S z n (l.setIfInBounds i true) a w) → K' a w) → if Region.wanted o (yielded ops a.tmps) = true then Oper.wp P o a w K' Q else K' (a.put o.dst undef) w)
    (g : ∀ K' : Act → World → Prop, Shut (∀ a w, S w → (S w → wpAnyZ P md ops Q S z n (l.setIfInBounds j true) a w) → K' a w) → if Region.wanted u (yielded ops a.tmps) = true then Oper.wp P u a w K' Q else K' (a.put u.dst undef) w) :
    wpAnyZ P md ops Q S z (n + 1) l a w := by
  refine ⟨fun h0 => (by rw [hr] at h0; cases h0), fun k hk => ?_⟩
  rw [hr] at hk
  rcases List.mem_cons.1 hk with rfl | hk
  · exact wpOp_step ho (fun K' hK => h K' (fun a w hS hW => hK a w ⟨fun _ => hS, hW hS⟩))
  · rw [List.mem_singleton] at hk
    subst hk
    exact wpOp_step hu (fun K' hK => g K' (fun a w hS hW => hK a w ⟨fun _ => hS, hW hS⟩))
theorem diStore2 (w : World) (g : Nat) (d : DI) (ad : Option Addr) (n c : Nat) (h : w.heap[g]? = some (.cells (#[.int .i64 0, .int .i64 0, .int .i64 0, .int .i64 0, .int .i64 0, .slice none 0 0, .int .i64 0, .int .i64 0] : Array Value).toList.toArray 34 (0, 0))) :
    (storeCells ⟨g, 0, none⟩ [.int .i64 d.up, .int .i64 d.cord, .int .i64 d.mov, .int .i64 d.beh, .int .i64 d.free, .slice ad n c, .int .i64 d.end_, .int .i64 d.share]).run Tryd.prog w = .ok () (w.setRow g #[.int .i64 d.up, .int .i64 d.cord, .int .i64 d.mov, .int .i64 d.beh, .int .i64 d.free, .slice ad n c, .int .i64 d.end_, .int .i64 d.share]) :=
  diStore w g _ _ h rfl rfl (by
    intro v hv
    simp only [List.mem_cons, List.not_mem_nil, or_false] at hv
    rcases hv with rfl | rfl | rfl | rfl | rfl | rfl | rfl | rfl <;> rfl)
set_option maxRecDepth 10000 in
set_option maxHeartbeats 12800000 in
theorem dialOf (c : CF) (s : STA) (now : Int) (w : World) (n : Nat) (hq : c.queues = n) (hn1 : 1 ≤ n) (hn3 : n ≤ 3) (hs : s.At w) (hnn : s.nn ≤ 1000000) (hjn : s.jn ≤ 1000000) (h0 : 0 ≤ now) (h1 : now ≤ 1000000) (hc : ∀ j ∈ s.J, j.calm ∧ 0 ≤ j.queue ∧ j.queue < n ∧ 0 ≤ j.phase ∧ j.phase ≤ 4) :
    Calls Tryd.prog 9 #[.agg #[.int .i64 c.nodes, .int .i64 (n : Int), .int .i64 c.quota, .int .i64 c.wave, .int .i64 c.lease, .int .i64 c.retry, .int .i64 c.deadline, .int .i64 c.room, .int .i64 c.disk], .agg #[.slice s.na s.nn s.nc, .slice s.ja s.jn s.jc, .int .i64 s.goal, .int .i64 s.prior, .int .i64 s.mode, .int .i64 s.term], .int .i64 now] w fun e w' => ∃ gq, e = .returned (.agg (DI.cs (dialD s now) (.slice (some ⟨gq, 0, none⟩) n n)).toArray) ∧ St w w' [cellsT gq 37 (qCells s.J n s.jn)] := by
  have S3 : St w _ [cellsT w.heap.size 23 (#[.int .i64 c.nodes, .int .i64 (n : Int), .int .i64 c.quota, .int .i64 c.wave, .int .i64 c.lease, .int .i64 c.retry, .int .i64 c.deadline, .int .i64 c.room, .int .i64 c.disk] : Array Value).toList, cellsT (w.heap.size + 1) 27 s.cs, cellsT (w.heap.size + 1 + 1) 34 (#[.int .i64 0, .int .i64 0, .int .i64 0, .int .i64 0, .int .i64 0, .slice none 0 0, .int .i64 0, .int .i64 0] : Array Value).toList] := (((St.start w).newAt 23 #[.int .i64 c.nodes, .int .i64 (n : Int), .int .i64 c.quota, .int .i64 c.wave, .int .i64 c.lease, .int .i64 c.retry, .int .i64 c.deadline, .int .i64 c.room, .int .i64 c.disk] w.heap.size rfl).newAt 27 #[.slice s.na s.nn s.nc, .slice s.ja s.jn s.jc, .int .i64 s.goal, .int .i64 s.prior, .int .i64 s.mode, .int .i64 s.term] (w.heap.size + 1) (alloc_size _ _)).newAt 34 #[.int .i64 0, .int .i64 0, .int .i64 0, .int .i64 0, .int .i64 0, .slice none 0 0, .int .i64 0, .int .i64 0] (w.heap.size + 1 + 1) (by simp only [alloc_size])
  have HS := hid hs
  have HC := hid hc
  clear hs hc hq
  go_enter Tryd.func9, Tryd.ntmps9
  go_upto_region 1 with fail
  generalize w.heap.size + 1 + 1 = g6 at *
  generalize w.heap.size + 1 = g2 at *
  generalize w.heap.size = g1 at S3 ⊢
  generalize ((w.alloc _).alloc _).alloc _ = w3 at *
  have keep : ∀ {w' : World} {r : List Thing}, St w w' (cellsT g1 23 (#[.int .i64 c.nodes, .int .i64 (n : Int), .int .i64 c.quota, .int .i64 c.wave, .int .i64 c.lease, .int .i64 c.retry, .int .i64 c.deadline, .int .i64 c.room, .int .i64 c.disk] : Array Value).toList :: cellsT g2 27 s.cs :: r) → (w'.cell? ⟨g1, 1, none⟩ = some (.int .i64 (n : Int)) ∧ (w'.cell? ⟨g2, 0, none⟩ = some (.slice s.na s.nn s.nc) ∧ w'.cell? ⟨g2, 1, none⟩ = some (.slice s.ja s.jn s.jc) ∧ w'.cell? ⟨g2, 2, none⟩ = some (.int .i64 s.goal) ∧ w'.cell? ⟨g2, 3, none⟩ = some (.int .i64 s.prior) ∧ w'.cell? ⟨g2, 4, none⟩ = some (.int .i64 s.mode) ∧ w'.cell? ⟨g2, 5, none⟩ = some (.int .i64 s.term))) := fun S => ⟨S.cell 0 rfl 1 rfl, S.sC 1 rfl⟩
  go_cut [7] from 13 to 20 (fun s7 wc => ∃ gq g7, s7 = .pointer (some ⟨g7, 0, none⟩) ∧ St w wc [cellsT g1 23 (#[.int .i64 c.nodes, .int .i64 (n : Int), .int .i64 c.quota, .int .i64 c.wave, .int .i64 c.lease, .int .i64 c.retry, .int .i64 c.deadline, .int .i64 c.room, .int .i64 c.disk] : Array Value).toList, cellsT g2 27 s.cs, cellsT g6 34 (#[.int .i64 0, .int .i64 0, .int .i64 0, .int .i64 0, .int .i64 0, .slice none 0 0, .int .i64 0, .int .i64 0] : Array Value).toList, cellsT gq 37 (qCells s.J n 0), cellsT g7 34 (DI.cs (diK s now 0) (.slice (some ⟨gq, 0, none⟩) n n))])
  case first =>
    go_wp2_with fail
    refine wp_region_held_drew (S := (fun w' => (w'.cell? ⟨g1, 1, none⟩ = some (.int .i64 (n : Int)) ∧ (w'.cell? ⟨g2, 0, none⟩ = some (.slice s.na s.nn s.nc) ∧ w'.cell? ⟨g2, 1, none⟩ = some (.slice s.ja s.jn s.jc) ∧ w'.cell? ⟨g2, 2, none⟩ = some (.int .i64 s.goal) ∧ w'.cell? ⟨g2, 3, none⟩ = some (.int .i64 s.prior) ∧ w'.cell? ⟨g2, 4, none⟩ = some (.int .i64 s.mode) ∧ w'.cell? ⟨g2, 5, none⟩ = some (.int .i64 s.term))))) (by kernel_rfl) (by exact keep S3.drew) (fun hHeld => ?_)
    change wpAnyH _ _ _ _ _ 10 (Array.replicate 10 false) _ _
    refine wpAnyH_take (i := 0) (v := ?v1) (ops_at rfl) (by kernel_rfl) (by kernel_rfl) (by kernel_rfl) (fun _ _ _ h => h) (Or.inl ⟨by rfl, ?hy1⟩) (by assumption) ?rest1
    case hy1 => intro w' hSw; (try dsimp only at hSw); go_simp; try with_reducible rfl
    try simp only [Act.put, List.setIfInBounds_toArray, List.set_cons_zero, List.set_cons_succ]
    refine wpAnyH_take (i := 3) (v := ?v2) (ops_at rfl) (by kernel_rfl) (by kernel_rfl) (by kernel_rfl) (fun _ _ _ h => h) (Or.inl ⟨by rfl, ?hy2⟩) (by assumption) ?rest2
    case hy2 => intro w' hSw; (try dsimp only at hSw); go_simp; try with_reducible rfl
    try simp only [Act.put, List.setIfInBounds_toArray, List.set_cons_zero, List.set_cons_succ]
    refine wpAnyH_take (i := 4) (v := ?v3) (ops_at rfl) (by kernel_rfl) (by kernel_rfl) (by kernel_rfl) (fun _ _ _ h => h) (Or.inl ⟨by rfl, ?hy3⟩) (by assumption) ?rest3
    case hy3 => intro w' hSw; (try dsimp only at hSw); go_simp; try with_reducible rfl
    try simp only [Act.put, List.setIfInBounds_toArray, List.set_cons_zero, List.set_cons_succ]
    refine wpAnyH_take (i := 5) (v := ?v4) (ops_at rfl) (by kernel_rfl) (by kernel_rfl) (by kernel_rfl) (fun _ _ _ h => h) (Or.inl ⟨by rfl, ?hy4⟩) (by assumption) ?rest4
    case hy4 => intro w' hSw; (try dsimp only at hSw); go_simp; try with_reducible rfl
    try simp only [Act.put, List.setIfInBounds_toArray, List.set_cons_zero, List.set_cons_succ]
    have S3 := S3.drew
    generalize w3.drew = w3 at *
    refine wpAnyH_ready (rs := [1, 6, 8]) (by kernel_rfl) (by simp) ?_
    refine AllReadyH.cons (ops_at rfl) (fun K hK => ?_) (AllReadyH.cons (ops_at rfl) (fun K hK => ?_) (AllReadyH.cons (ops_at rfl) (fun K hK => ?_) (AllReadyH.nil)))
    · skip
      go_simp
      refine (wvBehind s _ (HS.out.all S3.fin) hnn).mono ?_
      rintro e wa1 ⟨pa1, ca1, rfl, -, hb1⟩
      have S1 := S3.grow hb1
      clear hb1
      refine hK.out _ _ (by exact keep S1) (fun hHeld => ?_)
      clear hK K
      try simp only [Act.put, List.setIfInBounds_toArray, List.set_cons_zero, List.set_cons_succ]
      refine wpAnyH_take (i := 2) (v := ?v5) (ops_at rfl) (by kernel_rfl) (by kernel_rfl) (by kernel_rfl) (fun _ _ _ h => h) (Or.inl ⟨by rfl, ?hy5⟩) (by assumption) ?rest5
      case hy5 => intro w' hSw; (try dsimp only at hSw); go_simp; try with_reducible rfl
      try simp only [Act.put, List.setIfInBounds_toArray, List.set_cons_zero, List.set_cons_succ]
      refine wpAnyH_ready (rs := [6, 8]) (by kernel_rfl) (by simp) ?_
      refine AllReadyH.cons (ops_at rfl) (fun K hK => ?_) (AllReadyH.cons (ops_at rfl) (fun K hK => ?_) (AllReadyH.nil))
      · skip
        refine step_make (by rfl) (.tmp 18) (.tmp 18) 32 rfl _ _ rfl rfl (run_makeQ wa1 n hn1 hn3) ?_
        rintro vb2 wb2 ⟨rfl, hq2, hb2⟩
        obtain ⟨gb2, hg2⟩ : ∃ g, wa1.heap.size = g := ⟨_, rfl⟩
        have S2 := S1.newQ hb2 hg2 hq2
        rw [hg2]
        clear hb2 hq2 hg2
        refine hK.out _ _ (by exact keep S2) (fun hHeld => ?_)
        clear hK K
        try simp only [Act.put, List.setIfInBounds_toArray, List.set_cons_zero, List.set_cons_succ]
        refine wpAnyH_take (i := 7) (v := ?v6) (ops_at rfl) (by kernel_rfl) (by kernel_rfl) (by kernel_rfl) (fun _ _ _ h => h) (Or.inl ⟨by rfl, ?hy6⟩) (by assumption) ?rest6
        case hy6 => intro w' hSw; (try dsimp only at hSw); go_simp; try with_reducible rfl
        try simp only [Act.put, List.setIfInBounds_toArray, List.set_cons_zero, List.set_cons_succ]
        refine wpAnyH_ready (rs := [8]) (by kernel_rfl) (by simp) ?_
        refine AllReadyH.cons (ops_at rfl) (fun K hK => ?_) AllReadyH.nil
        go_simp
        have S3 := S2.newAt 34 #[.int .i64 0, .int .i64 0, .int .i64 0, .int .i64 0, .int .i64 0, .slice none 0 0, .int .i64 0, .int .i64 0] wb2.heap.size rfl
        generalize wb2.heap.size = gc3 at S3 ⊢
        generalize wb2.alloc _ = wc3 at S3 ⊢
        refine hK.out _ _ (by exact keep S3) (fun hHeld => ?_)
        clear hK K
        try simp only [Act.put, List.setIfInBounds_toArray, List.set_cons_zero, List.set_cons_succ]
        obtain ⟨f0, f1, f2, f3, f4, f5, f6, f7⟩ := And.intro (S3.frozen 4 rfl 0) (And.intro (S3.frozen 4 rfl 1) (And.intro (S3.frozen 4 rfl 2) (And.intro (S3.frozen 4 rfl 3) (And.intro (S3.frozen 4 rfl 4) (And.intro (S3.frozen 4 rfl 5) (And.intro (S3.frozen 4 rfl 6) (S3.frozen 4 rfl 7)))))))
        obtain ⟨y0, y1, y2, y3, y4, y5, y6, y7⟩ := And.intro (S3.cell 4 rfl 0 rfl) (And.intro (S3.cell 4 rfl 1 rfl) (And.intro (S3.cell 4 rfl 2 rfl) (And.intro (S3.cell 4 rfl 3 rfl) (And.intro (S3.cell 4 rfl 4 rfl) (And.intro (S3.cell 4 rfl 5 rfl) (And.intro (S3.cell 4 rfl 6 rfl) (S3.cell 4 rfl 7 rfl)))))))
        have SZ := ((((((((S3.setCell 4 rfl 0 (.int .i64 0)).setCell 4 rfl 1 (.int .i64 0)).setCell 4 rfl 2 (.int .i64 0)).setCell 4 rfl 3 (.int .i64 ((behK s s.nn).length : Int))).setCell 4 rfl 4 (.int .i64 0)).setCell 4 rfl 5 (.slice (some ⟨gb2, 0, none⟩) n n)).setCell 4 rfl 6 (.int .i64 now)).setCell 4 rfl 7 (.int .i64 100))
        refine wpAnyH_ready (rs := [9]) (by kernel_rfl) (by simp) ?_
        refine AllReadyH.cons (ops_at rfl) (fun K hK => ?_) AllReadyH.nil
        go_simp
        refine hK.out _ _ (by exact keep SZ) (fun hHeld => ?_)
        clear hK K
        try simp only [Act.put, List.setIfInBounds_toArray, List.set_cons_zero, List.set_cons_succ]
        refine wpAnyH_done (by kernel_rfl) ?_ _
        go_wp2_with fail
        go_meet
        exact ⟨gb2, gc3, rfl, by rw [qCells_zero]; exact SZ⟩
      · skip
        go_simp
        have S4 := S1.newAt 34 #[.int .i64 0, .int .i64 0, .int .i64 0, .int .i64 0, .int .i64 0, .slice none 0 0, .int .i64 0, .int .i64 0] wa1.heap.size rfl
        generalize wa1.heap.size = gc4 at S4 ⊢
        generalize wa1.alloc _ = wc4 at S4 ⊢
        refine hK.out _ _ (by exact keep S4) (fun hHeld => ?_)
        clear hK K
        try simp only [Act.put, List.setIfInBounds_toArray, List.set_cons_zero, List.set_cons_succ]
        refine wpAnyH_ready (rs := [6]) (by kernel_rfl) (by simp) ?_
        refine AllReadyH.cons (ops_at rfl) (fun K hK => ?_) AllReadyH.nil
        refine step_make (by rfl) (.tmp 18) (.tmp 18) 32 rfl _ _ rfl rfl (run_makeQ wc4 n hn1 hn3) ?_
        rintro vb5 wb5 ⟨rfl, hq5, hb5⟩
        obtain ⟨gb5, hg5⟩ : ∃ g, wc4.heap.size = g := ⟨_, rfl⟩
        have S5 := S4.newQ hb5 hg5 hq5
        rw [hg5]
        clear hb5 hq5 hg5
        refine hK.out _ _ (by exact keep S5) (fun hHeld => ?_)
        clear hK K
        try simp only [Act.put, List.setIfInBounds_toArray, List.set_cons_zero, List.set_cons_succ]
        refine wpAnyH_take (i := 7) (v := ?v9) (ops_at rfl) (by kernel_rfl) (by kernel_rfl) (by kernel_rfl) (fun _ _ _ h => h) (Or.inl ⟨by rfl, ?hy9⟩) (by assumption) ?rest9
        case hy9 => intro w' hSw; (try dsimp only at hSw); go_simp; try with_reducible rfl
        try simp only [Act.put, List.setIfInBounds_toArray, List.set_cons_zero, List.set_cons_succ]
        obtain ⟨f0, f1, f2, f3, f4, f5, f6, f7⟩ := And.intro (S5.frozen 3 rfl 0) (And.intro (S5.frozen 3 rfl 1) (And.intro (S5.frozen 3 rfl 2) (And.intro (S5.frozen 3 rfl 3) (And.intro (S5.frozen 3 rfl 4) (And.intro (S5.frozen 3 rfl 5) (And.intro (S5.frozen 3 rfl 6) (S5.frozen 3 rfl 7)))))))
        obtain ⟨y0, y1, y2, y3, y4, y5, y6, y7⟩ := And.intro (S5.cell 3 rfl 0 rfl) (And.intro (S5.cell 3 rfl 1 rfl) (And.intro (S5.cell 3 rfl 2 rfl) (And.intro (S5.cell 3 rfl 3 rfl) (And.intro (S5.cell 3 rfl 4 rfl) (And.intro (S5.cell 3 rfl 5 rfl) (And.intro (S5.cell 3 rfl 6 rfl) (S5.cell 3 rfl 7 rfl)))))))
        have SZ := ((((((((S5.setCell 3 rfl 0 (.int .i64 0)).setCell 3 rfl 1 (.int .i64 0)).setCell 3 rfl 2 (.int .i64 0)).setCell 3 rfl 3 (.int .i64 ((behK s s.nn).length : Int))).setCell 3 rfl 4 (.int .i64 0)).setCell 3 rfl 5 (.slice (some ⟨gb5, 0, none⟩) n n)).setCell 3 rfl 6 (.int .i64 now)).setCell 3 rfl 7 (.int .i64 100))
        refine wpAnyH_ready (rs := [9]) (by kernel_rfl) (by simp) ?_
        refine AllReadyH.cons (ops_at rfl) (fun K hK => ?_) AllReadyH.nil
        go_simp
        refine hK.out _ _ (by exact keep SZ) (fun hHeld => ?_)
        clear hK K
        try simp only [Act.put, List.setIfInBounds_toArray, List.set_cons_zero, List.set_cons_succ]
        refine wpAnyH_done (by kernel_rfl) ?_ _
        go_wp2_with fail
        go_meet
        exact ⟨gb5, gc4, rfl, by rw [qCells_zero]; exact St.swap34 SZ⟩
    · skip
      refine step_make (by rfl) (.tmp 18) (.tmp 18) 32 rfl _ _ rfl rfl (run_makeQ w3 n hn1 hn3) ?_
      rintro vb6 wb6 ⟨rfl, hq6, hb6⟩
      obtain ⟨gb6, hg6⟩ : ∃ g, w3.heap.size = g := ⟨_, rfl⟩
      have S6 := S3.newQ hb6 hg6 hq6
      rw [hg6]
      clear hb6 hq6 hg6
      refine hK.out _ _ (by exact keep S6) (fun hHeld => ?_)
      clear hK K
      try simp only [Act.put, List.setIfInBounds_toArray, List.set_cons_zero, List.set_cons_succ]
      refine wpAnyH_ready (rs := [1, 8]) (by kernel_rfl) (by simp) ?_
      refine AllReadyH.cons (ops_at rfl) (fun K hK => ?_) (AllReadyH.cons (ops_at rfl) (fun K hK => ?_) (AllReadyH.nil))
      · skip
        go_simp
        refine (wvBehind s _ (HS.out.all S6.fin) hnn).mono ?_
        rintro e wa7 ⟨pa7, ca7, rfl, -, hb7⟩
        have S7 := S6.grow hb7
        clear hb7
        refine hK.out _ _ (by exact keep S7) (fun hHeld => ?_)
        clear hK K
        try simp only [Act.put, List.setIfInBounds_toArray, List.set_cons_zero, List.set_cons_succ]
        refine wpAnyH_take (i := 2) (v := ?v10) (ops_at rfl) (by kernel_rfl) (by kernel_rfl) (by kernel_rfl) (fun _ _ _ h => h) (Or.inl ⟨by rfl, ?hy10⟩) (by assumption) ?rest10
        case hy10 => intro w' hSw; (try dsimp only at hSw); go_simp; try with_reducible rfl
        try simp only [Act.put, List.setIfInBounds_toArray, List.set_cons_zero, List.set_cons_succ]
        refine wpAnyH_take (i := 7) (v := ?v11) (ops_at rfl) (by kernel_rfl) (by kernel_rfl) (by kernel_rfl) (fun _ _ _ h => h) (Or.inl ⟨by rfl, ?hy11⟩) (by assumption) ?rest11
        case hy11 => intro w' hSw; (try dsimp only at hSw); go_simp; try with_reducible rfl
        try simp only [Act.put, List.setIfInBounds_toArray, List.set_cons_zero, List.set_cons_succ]
        refine wpAnyH_ready (rs := [8]) (by kernel_rfl) (by simp) ?_
        refine AllReadyH.cons (ops_at rfl) (fun K hK => ?_) AllReadyH.nil
        go_simp
        have S8 := S7.newAt 34 #[.int .i64 0, .int .i64 0, .int .i64 0, .int .i64 0, .int .i64 0, .slice none 0 0, .int .i64 0, .int .i64 0] wa7.heap.size rfl
        generalize wa7.heap.size = gc8 at S8 ⊢
        generalize wa7.alloc _ = wc8 at S8 ⊢
        refine hK.out _ _ (by exact keep S8) (fun hHeld => ?_)
        clear hK K
        try simp only [Act.put, List.setIfInBounds_toArray, List.set_cons_zero, List.set_cons_succ]
        obtain ⟨f0, f1, f2, f3, f4, f5, f6, f7⟩ := And.intro (S8.frozen 4 rfl 0) (And.intro (S8.frozen 4 rfl 1) (And.intro (S8.frozen 4 rfl 2) (And.intro (S8.frozen 4 rfl 3) (And.intro (S8.frozen 4 rfl 4) (And.intro (S8.frozen 4 rfl 5) (And.intro (S8.frozen 4 rfl 6) (S8.frozen 4 rfl 7)))))))
        obtain ⟨y0, y1, y2, y3, y4, y5, y6, y7⟩ := And.intro (S8.cell 4 rfl 0 rfl) (And.intro (S8.cell 4 rfl 1 rfl) (And.intro (S8.cell 4 rfl 2 rfl) (And.intro (S8.cell 4 rfl 3 rfl) (And.intro (S8.cell 4 rfl 4 rfl) (And.intro (S8.cell 4 rfl 5 rfl) (And.intro (S8.cell 4 rfl 6 rfl) (S8.cell 4 rfl 7 rfl)))))))
        have SZ := ((((((((S8.setCell 4 rfl 0 (.int .i64 0)).setCell 4 rfl 1 (.int .i64 0)).setCell 4 rfl 2 (.int .i64 0)).setCell 4 rfl 3 (.int .i64 ((behK s s.nn).length : Int))).setCell 4 rfl 4 (.int .i64 0)).setCell 4 rfl 5 (.slice (some ⟨gb6, 0, none⟩) n n)).setCell 4 rfl 6 (.int .i64 now)).setCell 4 rfl 7 (.int .i64 100))
        refine wpAnyH_ready (rs := [9]) (by kernel_rfl) (by simp) ?_
        refine AllReadyH.cons (ops_at rfl) (fun K hK => ?_) AllReadyH.nil
        go_simp
        refine hK.out _ _ (by exact keep SZ) (fun hHeld => ?_)
        clear hK K
        try simp only [Act.put, List.setIfInBounds_toArray, List.set_cons_zero, List.set_cons_succ]
        refine wpAnyH_done (by kernel_rfl) ?_ _
        go_wp2_with fail
        go_meet
        exact ⟨gb6, gc8, rfl, by rw [qCells_zero]; exact SZ⟩
      · skip
        go_simp
        have S9 := S6.newAt 34 #[.int .i64 0, .int .i64 0, .int .i64 0, .int .i64 0, .int .i64 0, .slice none 0 0, .int .i64 0, .int .i64 0] wb6.heap.size rfl
        generalize wb6.heap.size = gc9 at S9 ⊢
        generalize wb6.alloc _ = wc9 at S9 ⊢
        refine hK.out _ _ (by exact keep S9) (fun hHeld => ?_)
        clear hK K
        try simp only [Act.put, List.setIfInBounds_toArray, List.set_cons_zero, List.set_cons_succ]
        refine wpAnyH_ready (rs := [1]) (by kernel_rfl) (by simp) ?_
        refine AllReadyH.cons (ops_at rfl) (fun K hK => ?_) AllReadyH.nil
        go_simp
        refine (wvBehind s _ (HS.out.all S9.fin) hnn).mono ?_
        rintro e wa10 ⟨pa10, ca10, rfl, -, hb10⟩
        have S10 := S9.grow hb10
        clear hb10
        refine hK.out _ _ (by exact keep S10) (fun hHeld => ?_)
        clear hK K
        try simp only [Act.put, List.setIfInBounds_toArray, List.set_cons_zero, List.set_cons_succ]
        refine wpAnyH_take (i := 2) (v := ?v14) (ops_at rfl) (by kernel_rfl) (by kernel_rfl) (by kernel_rfl) (fun _ _ _ h => h) (Or.inl ⟨by rfl, ?hy14⟩) (by assumption) ?rest14
        case hy14 => intro w' hSw; (try dsimp only at hSw); go_simp; try with_reducible rfl
        try simp only [Act.put, List.setIfInBounds_toArray, List.set_cons_zero, List.set_cons_succ]
        refine wpAnyH_take (i := 7) (v := ?v15) (ops_at rfl) (by kernel_rfl) (by kernel_rfl) (by kernel_rfl) (fun _ _ _ h => h) (Or.inl ⟨by rfl, ?hy15⟩) (by assumption) ?rest15
        case hy15 => intro w' hSw; (try dsimp only at hSw); go_simp; try with_reducible rfl
        try simp only [Act.put, List.setIfInBounds_toArray, List.set_cons_zero, List.set_cons_succ]
        obtain ⟨f0, f1, f2, f3, f4, f5, f6, f7⟩ := And.intro (S10.frozen 4 rfl 0) (And.intro (S10.frozen 4 rfl 1) (And.intro (S10.frozen 4 rfl 2) (And.intro (S10.frozen 4 rfl 3) (And.intro (S10.frozen 4 rfl 4) (And.intro (S10.frozen 4 rfl 5) (And.intro (S10.frozen 4 rfl 6) (S10.frozen 4 rfl 7)))))))
        obtain ⟨y0, y1, y2, y3, y4, y5, y6, y7⟩ := And.intro (S10.cell 4 rfl 0 rfl) (And.intro (S10.cell 4 rfl 1 rfl) (And.intro (S10.cell 4 rfl 2 rfl) (And.intro (S10.cell 4 rfl 3 rfl) (And.intro (S10.cell 4 rfl 4 rfl) (And.intro (S10.cell 4 rfl 5 rfl) (And.intro (S10.cell 4 rfl 6 rfl) (S10.cell 4 rfl 7 rfl)))))))
        have SZ := ((((((((S10.setCell 4 rfl 0 (.int .i64 0)).setCell 4 rfl 1 (.int .i64 0)).setCell 4 rfl 2 (.int .i64 0)).setCell 4 rfl 3 (.int .i64 ((behK s s.nn).length : Int))).setCell 4 rfl 4 (.int .i64 0)).setCell 4 rfl 5 (.slice (some ⟨gb6, 0, none⟩) n n)).setCell 4 rfl 6 (.int .i64 now)).setCell 4 rfl 7 (.int .i64 100))
        refine wpAnyH_ready (rs := [9]) (by kernel_rfl) (by simp) ?_
        refine AllReadyH.cons (ops_at rfl) (fun K hK => ?_) AllReadyH.nil
        go_simp
        refine hK.out _ _ (by exact keep SZ) (fun hHeld => ?_)
        clear hK K
        try simp only [Act.put, List.setIfInBounds_toArray, List.set_cons_zero, List.set_cons_succ]
        refine wpAnyH_done (by kernel_rfl) ?_ _
        go_wp2_with fail
        go_meet
        exact ⟨gb6, gc9, rfl, by rw [qCells_zero]; exact SZ⟩
    · skip
      go_simp
      have S11 := S3.newAt 34 #[.int .i64 0, .int .i64 0, .int .i64 0, .int .i64 0, .int .i64 0, .slice none 0 0, .int .i64 0, .int .i64 0] w3.heap.size rfl
      generalize w3.heap.size = gc11 at S11 ⊢
      generalize w3.alloc _ = wc11 at S11 ⊢
      refine hK.out _ _ (by exact keep S11) (fun hHeld => ?_)
      clear hK K
      try simp only [Act.put, List.setIfInBounds_toArray, List.set_cons_zero, List.set_cons_succ]
      refine wpAnyH_ready (rs := [1, 6]) (by kernel_rfl) (by simp) ?_
      refine AllReadyH.cons (ops_at rfl) (fun K hK => ?_) (AllReadyH.cons (ops_at rfl) (fun K hK => ?_) (AllReadyH.nil))
      · skip
        go_simp
        refine (wvBehind s _ (HS.out.all S11.fin) hnn).mono ?_
        rintro e wa12 ⟨pa12, ca12, rfl, -, hb12⟩
        have S12 := S11.grow hb12
        clear hb12
        refine hK.out _ _ (by exact keep S12) (fun hHeld => ?_)
        clear hK K
        try simp only [Act.put, List.setIfInBounds_toArray, List.set_cons_zero, List.set_cons_succ]
        refine wpAnyH_take (i := 2) (v := ?v16) (ops_at rfl) (by kernel_rfl) (by kernel_rfl) (by kernel_rfl) (fun _ _ _ h => h) (Or.inl ⟨by rfl, ?hy16⟩) (by assumption) ?rest16
        case hy16 => intro w' hSw; (try dsimp only at hSw); go_simp; try with_reducible rfl
        try simp only [Act.put, List.setIfInBounds_toArray, List.set_cons_zero, List.set_cons_succ]
        refine wpAnyH_ready (rs := [6]) (by kernel_rfl) (by simp) ?_
        refine AllReadyH.cons (ops_at rfl) (fun K hK => ?_) AllReadyH.nil
        refine step_make (by rfl) (.tmp 18) (.tmp 18) 32 rfl _ _ rfl rfl (run_makeQ wa12 n hn1 hn3) ?_
        rintro vb13 wb13 ⟨rfl, hq13, hb13⟩
        obtain ⟨gb13, hg13⟩ : ∃ g, wa12.heap.size = g := ⟨_, rfl⟩
        have S13 := S12.newQ hb13 hg13 hq13
        rw [hg13]
        clear hb13 hq13 hg13
        refine hK.out _ _ (by exact keep S13) (fun hHeld => ?_)
        clear hK K
        try simp only [Act.put, List.setIfInBounds_toArray, List.set_cons_zero, List.set_cons_succ]
        refine wpAnyH_take (i := 7) (v := ?v18) (ops_at rfl) (by kernel_rfl) (by kernel_rfl) (by kernel_rfl) (fun _ _ _ h => h) (Or.inl ⟨by rfl, ?hy18⟩) (by assumption) ?rest18
        case hy18 => intro w' hSw; (try dsimp only at hSw); go_simp; try with_reducible rfl
        try simp only [Act.put, List.setIfInBounds_toArray, List.set_cons_zero, List.set_cons_succ]
        obtain ⟨f0, f1, f2, f3, f4, f5, f6, f7⟩ := And.intro (S13.frozen 3 rfl 0) (And.intro (S13.frozen 3 rfl 1) (And.intro (S13.frozen 3 rfl 2) (And.intro (S13.frozen 3 rfl 3) (And.intro (S13.frozen 3 rfl 4) (And.intro (S13.frozen 3 rfl 5) (And.intro (S13.frozen 3 rfl 6) (S13.frozen 3 rfl 7)))))))
        obtain ⟨y0, y1, y2, y3, y4, y5, y6, y7⟩ := And.intro (S13.cell 3 rfl 0 rfl) (And.intro (S13.cell 3 rfl 1 rfl) (And.intro (S13.cell 3 rfl 2 rfl) (And.intro (S13.cell 3 rfl 3 rfl) (And.intro (S13.cell 3 rfl 4 rfl) (And.intro (S13.cell 3 rfl 5 rfl) (And.intro (S13.cell 3 rfl 6 rfl) (S13.cell 3 rfl 7 rfl)))))))
        have SZ := ((((((((S13.setCell 3 rfl 0 (.int .i64 0)).setCell 3 rfl 1 (.int .i64 0)).setCell 3 rfl 2 (.int .i64 0)).setCell 3 rfl 3 (.int .i64 ((behK s s.nn).length : Int))).setCell 3 rfl 4 (.int .i64 0)).setCell 3 rfl 5 (.slice (some ⟨gb13, 0, none⟩) n n)).setCell 3 rfl 6 (.int .i64 now)).setCell 3 rfl 7 (.int .i64 100))
        refine wpAnyH_ready (rs := [9]) (by kernel_rfl) (by simp) ?_
        refine AllReadyH.cons (ops_at rfl) (fun K hK => ?_) AllReadyH.nil
        go_simp
        refine hK.out _ _ (by exact keep SZ) (fun hHeld => ?_)
        clear hK K
        try simp only [Act.put, List.setIfInBounds_toArray, List.set_cons_zero, List.set_cons_succ]
        refine wpAnyH_done (by kernel_rfl) ?_ _
        go_wp2_with fail
        go_meet
        exact ⟨gb13, gc11, rfl, by rw [qCells_zero]; exact St.swap34 SZ⟩
      · skip
        refine step_make (by rfl) (.tmp 18) (.tmp 18) 32 rfl _ _ rfl rfl (run_makeQ wc11 n hn1 hn3) ?_
        rintro vb14 wb14 ⟨rfl, hq14, hb14⟩
        obtain ⟨gb14, hg14⟩ : ∃ g, wc11.heap.size = g := ⟨_, rfl⟩
        have S14 := S11.newQ hb14 hg14 hq14
        rw [hg14]
        clear hb14 hq14 hg14
        refine hK.out _ _ (by exact keep S14) (fun hHeld => ?_)
        clear hK K
        try simp only [Act.put, List.setIfInBounds_toArray, List.set_cons_zero, List.set_cons_succ]
        refine wpAnyH_ready (rs := [1]) (by kernel_rfl) (by simp) ?_
        refine AllReadyH.cons (ops_at rfl) (fun K hK => ?_) AllReadyH.nil
        go_simp
        refine (wvBehind s _ (HS.out.all S14.fin) hnn).mono ?_
        rintro e wa15 ⟨pa15, ca15, rfl, -, hb15⟩
        have S15 := S14.grow hb15
        clear hb15
        refine hK.out _ _ (by exact keep S15) (fun hHeld => ?_)
        clear hK K
        try simp only [Act.put, List.setIfInBounds_toArray, List.set_cons_zero, List.set_cons_succ]
        refine wpAnyH_take (i := 2) (v := ?v20) (ops_at rfl) (by kernel_rfl) (by kernel_rfl) (by kernel_rfl) (fun _ _ _ h => h) (Or.inl ⟨by rfl, ?hy20⟩) (by assumption) ?rest20
        case hy20 => intro w' hSw; (try dsimp only at hSw); go_simp; try with_reducible rfl
        try simp only [Act.put, List.setIfInBounds_toArray, List.set_cons_zero, List.set_cons_succ]
        refine wpAnyH_take (i := 7) (v := ?v21) (ops_at rfl) (by kernel_rfl) (by kernel_rfl) (by kernel_rfl) (fun _ _ _ h => h) (Or.inl ⟨by rfl, ?hy21⟩) (by assumption) ?rest21
        case hy21 => intro w' hSw; (try dsimp only at hSw); go_simp; try with_reducible rfl
        try simp only [Act.put, List.setIfInBounds_toArray, List.set_cons_zero, List.set_cons_succ]
        obtain ⟨f0, f1, f2, f3, f4, f5, f6, f7⟩ := And.intro (S15.frozen 3 rfl 0) (And.intro (S15.frozen 3 rfl 1) (And.intro (S15.frozen 3 rfl 2) (And.intro (S15.frozen 3 rfl 3) (And.intro (S15.frozen 3 rfl 4) (And.intro (S15.frozen 3 rfl 5) (And.intro (S15.frozen 3 rfl 6) (S15.frozen 3 rfl 7)))))))
        obtain ⟨y0, y1, y2, y3, y4, y5, y6, y7⟩ := And.intro (S15.cell 3 rfl 0 rfl) (And.intro (S15.cell 3 rfl 1 rfl) (And.intro (S15.cell 3 rfl 2 rfl) (And.intro (S15.cell 3 rfl 3 rfl) (And.intro (S15.cell 3 rfl 4 rfl) (And.intro (S15.cell 3 rfl 5 rfl) (And.intro (S15.cell 3 rfl 6 rfl) (S15.cell 3 rfl 7 rfl)))))))
        have SZ := ((((((((S15.setCell 3 rfl 0 (.int .i64 0)).setCell 3 rfl 1 (.int .i64 0)).setCell 3 rfl 2 (.int .i64 0)).setCell 3 rfl 3 (.int .i64 ((behK s s.nn).length : Int))).setCell 3 rfl 4 (.int .i64 0)).setCell 3 rfl 5 (.slice (some ⟨gb14, 0, none⟩) n n)).setCell 3 rfl 6 (.int .i64 now)).setCell 3 rfl 7 (.int .i64 100))
        refine wpAnyH_ready (rs := [9]) (by kernel_rfl) (by simp) ?_
        refine AllReadyH.cons (ops_at rfl) (fun K hK => ?_) AllReadyH.nil
        go_simp
        refine hK.out _ _ (by exact keep SZ) (fun hHeld => ?_)
        clear hK K
        try simp only [Act.put, List.setIfInBounds_toArray, List.set_cons_zero, List.set_cons_succ]
        refine wpAnyH_done (by kernel_rfl) ?_ _
        go_wp2_with fail
        go_meet
        exact ⟨gb14, gc11, rfl, by rw [qCells_zero]; exact St.swap34 SZ⟩
  case rest =>
  obtain ⟨gq, g7, rfl, S4⟩ := hcut
  clear S3 keep
  obtain ⟨z0, z1, z2, z3, z4, z5⟩ := S4.sC 1 rfl
  go_wp2_with fail
  clear z0 z1 z2 z3 z4 z5
  go_loopw [8, 24] (fun r i wr => ∃ (k : Nat), k ≤ s.nn ∧ r = .int .i64 (cntP (rightN s) s.N k) ∧ i = .int .i64 k ∧ St w wr [cellsT g1 23 (#[.int .i64 c.nodes, .int .i64 (n : Int), .int .i64 c.quota, .int .i64 c.wave, .int .i64 c.lease, .int .i64 c.retry, .int .i64 c.deadline, .int .i64 c.room, .int .i64 c.disk] : Array Value).toList, cellsT g2 27 s.cs, cellsT g6 34 (#[.int .i64 0, .int .i64 0, .int .i64 0, .int .i64 0, .int .i64 0, .slice none 0 0, .int .i64 0, .int .i64 0] : Array Value).toList, cellsT gq 37 (qCells s.J n 0), cellsT g7 34 (DI.cs (diK s now k) (.slice (some ⟨gq, 0, none⟩) n n))]) (fun _ i _ => s.nn - (intOf i).toNat)
  case atStart => exact ⟨0, Nat.zero_le _, rfl, rfl, S4⟩
  case round =>
    obtain ⟨k, hk, rfl, rfl, Sk⟩ := hrel
    clear S4
    by_cases hlt : k < s.nn
    case neg =>
      have gg1 : decide ((k : Int) < (s.nn : Int)) = false := decide_eq_false (by omega)
      have gg1n : decide (k < s.nn) = false := decide_eq_false hlt
      have hkn : Hid (k = s.nn) := by rw [Hid]; omega
      have HD : Hid (dialD s now = ⟨cntP (·.up) s.N k, cntP (·.cordon) s.N k, cntP (·.moving) s.N k, (behK s s.nn).length, cntP (·.free) s.N k, endK s now s.jn, shareP (cntP (rightN s) s.N k) (cntP (·.up) s.N k)⟩) := by rw [Hid, hkn.out]; rfl
      obtain ⟨b1, b1'⟩ := cntP_le (·.up) s.N k
      obtain ⟨b5, b5'⟩ := cntP_le (rightN s) s.N k
      unfold diK at Sk
      generalize cntP (·.up) s.N k = cU at *
      generalize cntP (·.cordon) s.N k = cC at *
      generalize cntP (·.moving) s.N k = cM at *
      generalize cntP (·.free) s.N k = cF at *
      generalize cntP (rightN s) s.N k = cR at *
      obtain ⟨shr, hshr⟩ : ∃ shr, shareP cR cU = shr := ⟨_, rfl⟩
      rw [hshr] at HD
      have HSh := hid hshr
      clear hshr
      have hwm : IntKind.i64.wrap (cR * 100) = cR * 100 := by rw [IntKind.wrap_i64]; omega
      have q7 := Sk.cell 4 rfl 0 rfl
      have f7 := Sk.frozen 4 rfl 7
      have p7 := Sk.cell 4 rfl 7 rfl
      go_upto_if 71 with fail
      go_cut [] from 24 to 77 (fun wc => St w wc [cellsT g1 23 (#[.int .i64 c.nodes, .int .i64 (n : Int), .int .i64 c.quota, .int .i64 c.wave, .int .i64 c.lease, .int .i64 c.retry, .int .i64 c.deadline, .int .i64 c.room, .int .i64 c.disk] : Array Value).toList, cellsT g2 27 s.cs, cellsT g6 34 (#[.int .i64 0, .int .i64 0, .int .i64 0, .int .i64 0, .int .i64 0, .slice none 0 0, .int .i64 0, .int .i64 0] : Array Value).toList, cellsT gq 37 (qCells s.J n 0), cellsT g7 34 (DI.cs ⟨cU, cC, cM, (behK s s.nn).length, cF, now, shr⟩ (.slice (some ⟨gq, 0, none⟩) n n))])
      case first =>
        generalize hpb : decide ((0 : Int) < cU) = pb
        have HPb := hid hpb
        clear hpb
        cases pb
        · have E : Hid (shr = 100) := by rw [Hid, ← HSh.out]; unfold shareP; rw [if_neg (of_decide_eq_false HPb.out)]
          go_wp2_with fail
          go_meet
          rw [E.out]; exact Sk
        · have hpos := of_decide_eq_true HPb.out
          have E : Hid (shr = cR * 100 / cU) := by rw [Hid, ← HSh.out]; unfold shareP; rw [if_pos hpos]
          have hne : (cU == 0) = false := by simp; omega
          have hq1 : 0 ≤ cR * 100 / cU := Int.ediv_nonneg (by omega) (by omega)
          have hq2 : cR * 100 / cU ≤ cR * 100 := Int.ediv_le_self _ (by omega)
          have hwq : IntKind.i64.wrap (cR * 100 / cU) = cR * 100 / cU := by rw [IntKind.wrap_i64]; omega
          have htd : (cR * 100).tdiv cU = cR * 100 / cU := Int.tdiv_eq_ediv_of_nonneg (by omega)
          have S6 := Sk.setCell 4 rfl 7 (.int .i64 (cR * 100 / cU))
          go_wp2_with fail
          go_meet
          rw [E.out]; exact S6
      case rest =>
      have S4 := hcut
      clear hcut Sk HSh
      obtain ⟨z0, z1, z2, z3, z4, z5⟩ := S4.sC 1 rfl
      go_wp2_with fail
      clear z0 z1 z2 z3 z4 z5 q7 f7 p7
      go_loopw [81] (fun i wr => ∃ (k : Nat), k ≤ s.jn ∧ i = .int .i64 k ∧ St w wr [cellsT g1 23 (#[.int .i64 c.nodes, .int .i64 (n : Int), .int .i64 c.quota, .int .i64 c.wave, .int .i64 c.lease, .int .i64 c.retry, .int .i64 c.deadline, .int .i64 c.room, .int .i64 c.disk] : Array Value).toList, cellsT g2 27 s.cs, cellsT g6 34 (#[.int .i64 0, .int .i64 0, .int .i64 0, .int .i64 0, .int .i64 0, .slice none 0 0, .int .i64 0, .int .i64 0] : Array Value).toList, cellsT gq 37 (qCells s.J n k), cellsT g7 34 (DI.cs ⟨cU, cC, cM, (behK s s.nn).length, cF, (endK s now k), shr⟩ (.slice (some ⟨gq, 0, none⟩) n n))]) (fun i _ => s.jn - (intOf i).toNat)
      case atStart => exact ⟨0, Nat.zero_le _, rfl, S4⟩
      case round =>
        obtain ⟨k, hk, rfl, Sk⟩ := hrel
        clear S4
        by_cases hlt : k < s.jn
        case neg =>
          have g0 : decide ((k : Int) < (s.jn : Int)) = false := decide_eq_false (by omega)
          have g0n : decide (k < s.jn) = false := decide_eq_false hlt
          have hkn : Hid (k = s.jn) := by rw [Hid]; omega
          have HD2 : Hid (dialD s now = ⟨cU, cC, cM, (behK s s.nn).length, cF, endK s now k, shr⟩) := by rw [hkn.out]; exact HD
          have S9 := Sk
          generalize endK s now k = ek at *
          obtain ⟨y0, y1, y2, y3, y4, y5, y6, y7⟩ := And.intro (S9.cell 4 rfl 0 rfl) (And.intro (S9.cell 4 rfl 1 rfl) (And.intro (S9.cell 4 rfl 2 rfl) (And.intro (S9.cell 4 rfl 3 rfl) (And.intro (S9.cell 4 rfl 4 rfl) (And.intro (S9.cell 4 rfl 5 rfl) (And.intro (S9.cell 4 rfl 6 rfl) (S9.cell 4 rfl 7 rfl)))))))
          obtain ⟨z0, z1, z2, z3, z4, z5, z6, z7⟩ := And.intro (S9.cell 2 rfl 0 rfl) (And.intro (S9.cell 2 rfl 1 rfl) (And.intro (S9.cell 2 rfl 2 rfl) (And.intro (S9.cell 2 rfl 3 rfl) (And.intro (S9.cell 2 rfl 4 rfl) (And.intro (S9.cell 2 rfl 5 rfl) (And.intro (S9.cell 2 rfl 6 rfl) (S9.cell 2 rfl 7 rfl)))))))
          obtain ⟨f0, f1, f2, f3, f4, f5, f6, f7⟩ := And.intro (S9.frozen 2 rfl 0) (And.intro (S9.frozen 2 rfl 1) (And.intro (S9.frozen 2 rfl 2) (And.intro (S9.frozen 2 rfl 3) (And.intro (S9.frozen 2 rfl 4) (And.intro (S9.frozen 2 rfl 5) (And.intro (S9.frozen 2 rfl 6) (S9.frozen 2 rfl 7)))))))
          have SX := ((((((((S9.setCell 2 rfl 0 (.int .i64 cU)).setCell 2 rfl 1 (.int .i64 cC)).setCell 2 rfl 2 (.int .i64 cM)).setCell 2 rfl 3 (.int .i64 ((behK s s.nn).length : Int))).setCell 2 rfl 4 (.int .i64 cF)).setCell 2 rfl 5 (.slice (some ⟨gq, 0, none⟩) n n)).setCell 2 rfl 6 (.int .i64 ek)).setCell 2 rfl 7 (.int .i64 shr))
          clear Sk
          go_wp2
          refine bodyPost_ret (res_dial rfl _ _ g6 _ rfl (by exact SX.heap 2 rfl) rfl) rfl ?_
          refine ⟨gq, ?_, ?_⟩
          · rw [HD2.out]; rfl
          · rw [← hkn.out]
            exact (SX.front 3 rfl).take 1
        have g0 : decide ((k : Int) < (s.jn : Int)) = true := decide_eq_true (by omega)
        have g0n : decide (k < s.jn) = true := decide_eq_true hlt
        have hkl : k < s.J.length := by rw [HS.out.jn]; exact hlt
        have i0 := fun wx => idxJB s.ja s.jn s.jc (fun h => HS.out.j.ok (by rw [HS.out.jn]; exact h)) k (k : Int) rfl hlt wx
        obtain ⟨x0, x1, x2, x3, x4, x5, x6, x7, x8, x9, x10, x11⟩ := (HS.out.j.all eJBok Sk.fin).jbAt hkl
        obtain ⟨-, hj0, hj1, hj2, hj3⟩ := HC.out _ (List.getElem_mem hkl)
        have HQs : Hid (qCells s.J n (k + 1) = (qCells s.J n k).set (jobAt s.J[k]) (.int .i64 (qCnt s.J k (jobAt s.J[k]) + 1))) := qCells_step s.J n k hkl
        have HE : Hid (endK s now (k + 1) = max (endK s now k) (endS s ((k : Int) + 1) now)) := rfl
        generalize s.J[k] = j at *
        generalize adr s.ja (k * 12) = A at *
        obtain ⟨qq, hqq⟩ : ∃ qq : Nat, j.queue = qq := ⟨j.queue.toNat, by omega⟩
        obtain ⟨pp, hpp⟩ : ∃ pp : Nat, j.phase = pp := ⟨j.phase.toNat, by omega⟩
        have hja : jobAt j = qq * 5 + pp := by unfold jobAt; omega
        rw [hja] at HQs
        have hcl := qCnt_le s.J (qq * 5 + pp) k
        have HCell : Hid ((qCells s.J n k)[qq * 5 + pp]? = some (.int .i64 (qCnt s.J k (qq * 5 + pp)))) := by
          unfold qCells
          rw [Hid, List.getElem?_map, List.getElem?_range (by omega)]
          rfl
        generalize qCnt s.J k (qq * 5 + pp) = cq at *
        have S5 : St w _ [cellsT g1 23 (#[.int .i64 c.nodes, .int .i64 (n : Int), .int .i64 c.quota, .int .i64 c.wave, .int .i64 c.lease, .int .i64 c.retry, .int .i64 c.deadline, .int .i64 c.room, .int .i64 c.disk] : Array Value).toList, cellsT g2 27 s.cs, cellsT g6 34 (#[.int .i64 0, .int .i64 0, .int .i64 0, .int .i64 0, .int .i64 0, .slice none 0 0, .int .i64 0, .int .i64 0] : Array Value).toList, cellsT gq 37 (qCells s.J n k), cellsT g7 34 (DI.cs ⟨cU, cC, cM, (behK s s.nn).length, cF, endK s now k, shr⟩ (.slice (some ⟨gq, 0, none⟩) n n)), cellsT wr.heap.size 51 j.cs] := Sk.newAt 51 #[.int .i64 j.queue, .int .i64 j.prio, .int .i64 j.lo, .int .i64 j.hi, .int .i64 j.work, .int .i64 j.pin, .int .i64 j.phase, .int .i64 j.inc, .int .i64 j.nodes, .int .i64 j.since, .int .i64 j.until_, .int .i64 j.epoch] wr.heap.size rfl
        have HCm := hid (fun j hj => (HC.out j hj).1)
        have HQq := hid hqq
        have HPp := hid hpp
        have hqn : qq < n := by omega
        have hp5 : pp < 5 := by omega
        clear hqq hpp hja
        go_upto_region 17 with fail
        generalize wr.heap.size = gj at *
        generalize wr.alloc _ = w5 at *
        clear x0 x1 x2 x3 x4 x5 x6 x7 x8 x9 x10 x11 i0 Sk
        go_cut [] from 82 to 107 (fun wc => St w wc [cellsT g1 23 (#[.int .i64 c.nodes, .int .i64 (n : Int), .int .i64 c.quota, .int .i64 c.wave, .int .i64 c.lease, .int .i64 c.retry, .int .i64 c.deadline, .int .i64 c.room, .int .i64 c.disk] : Array Value).toList, cellsT g2 27 s.cs, cellsT g6 34 (#[.int .i64 0, .int .i64 0, .int .i64 0, .int .i64 0, .int .i64 0, .slice none 0 0, .int .i64 0, .int .i64 0] : Array Value).toList, cellsT gq 37 (qCells s.J n (k + 1)), cellsT g7 34 (DI.cs ⟨cU, cC, cM, (behK s s.nn).length, cF, endK s now k, shr⟩ (.slice (some ⟨gq, 0, none⟩) n n)), cellsT gj 51 j.cs])
        case first =>
          have i6 := fun wx => idxQ (some ⟨gq, 0, none⟩) n n (fun _ => rfl) qq j.queue HQq.out hqn wx
          have i7 := fun wx => idxP gq (qq * 5) pp j.phase HPp.out hp5 wx
          simp only [adr, Addr.add_lit, Nat.zero_add] at i6
          have hw7 : IntKind.i64.wrap (cq + 1) = cq + 1 := by rw [IntKind.wrap_i64]; omega
          have S6 := S5.drew
          have f17 := S6.frozen 3 rfl (qq * 5 + pp)
          have c17 : w5.drew.cell? ⟨gq, qq * 5 + pp, none⟩ = some (.int .i64 cq) := S6.cell 3 rfl (qq * 5 + pp) HCell.out
          have keep17 : ((w5.drew).cell? ⟨g7, 5, none⟩ = some (.slice (some ⟨gq, 0, none⟩) n n) ∧ (w5.drew).cell? ⟨gj, 0, none⟩ = some (.int .i64 j.queue) ∧ (w5.drew).cell? ⟨gj, 6, none⟩ = some (.int .i64 j.phase) ∧ (w5.drew).cell? ⟨gq, qq * 5 + pp, none⟩ = some (.int .i64 cq)) := ⟨S6.cell 4 rfl 5 rfl, S6.cell 5 rfl 0 rfl, S6.cell 5 rfl 6 rfl, c17⟩
          have S17 : St w (w5.setCell ⟨gq, qq * 5 + pp, none⟩ (.int .i64 (cq + 1))).drew [cellsT g1 23 (#[.int .i64 c.nodes, .int .i64 (n : Int), .int .i64 c.quota, .int .i64 c.wave, .int .i64 c.lease, .int .i64 c.retry, .int .i64 c.deadline, .int .i64 c.room, .int .i64 c.disk] : Array Value).toList, cellsT g2 27 s.cs, cellsT g6 34 (#[.int .i64 0, .int .i64 0, .int .i64 0, .int .i64 0, .int .i64 0, .slice none 0 0, .int .i64 0, .int .i64 0] : Array Value).toList, cellsT gq 37 (qCells s.J n (k + 1)), cellsT g7 34 (DI.cs ⟨cU, cC, cM, (behK s s.nn).length, cF, endK s now k, shr⟩ (.slice (some ⟨gq, 0, none⟩) n n)), cellsT gj 51 j.cs] := by
            rw [HQs.out]; exact (S5.setCell 3 rfl (qq * 5 + pp) (.int .i64 (cq + 1))).drew
          clear S5
          go_wp2_with fail
          refine wp_region_heldZ (S := fun w' => ((w').cell? ⟨g7, 5, none⟩ = some (.slice (some ⟨gq, 0, none⟩) n n) ∧ (w').cell? ⟨gj, 0, none⟩ = some (.int .i64 j.queue) ∧ (w').cell? ⟨gj, 6, none⟩ = some (.int .i64 j.phase) ∧ (w').cell? ⟨gq, qq * 5 + pp, none⟩ = some (.int .i64 cq))) 12 (by kernel_rfl) (by exact keep17) (fun hHeld => ?_)
          change wpAnyZ _ _ _ _ _ 12 13 (Array.replicate 13 false) _ _
          refine wpAnyZ_take (i := 0) (v := ?zv1) (ops_at rfl) (by kernel_rfl) (by kernel_rfl) (by kernel_rfl) (by kernel_rfl) [12] (by kernel_rfl) (by rfl) (fun _ _ _ h => h) (Or.inl ⟨by rfl, ?zhy1⟩) (by assumption) ?zrest1
          case zhy1 => intro w' hSw; (try dsimp only at hSw); go_simp; try with_reducible rfl
          try simp only [Act.put, List.setIfInBounds_toArray, List.set_cons_zero, List.set_cons_succ]
          refine wpAnyZ_take (i := 1) (v := ?zv2) (ops_at rfl) (by kernel_rfl) (by kernel_rfl) (by kernel_rfl) (by kernel_rfl) [12] (by kernel_rfl) (by rfl) (fun _ _ _ h => h) (Or.inl ⟨by rfl, ?zhy2⟩) (by assumption) ?zrest2
          case zhy2 => intro w' hSw; (try dsimp only at hSw); go_simp; try with_reducible rfl
          try simp only [Act.put, List.setIfInBounds_toArray, List.set_cons_zero, List.set_cons_succ]
          refine wpAnyZ_take (i := 2) (v := ?zv3) (ops_at rfl) (by kernel_rfl) (by kernel_rfl) (by kernel_rfl) (by kernel_rfl) [12] (by kernel_rfl) (by rfl) (fun _ _ _ h => h) (Or.inl ⟨by rfl, ?zhy3⟩) (by assumption) ?zrest3
          case zhy3 => intro w' hSw; (try dsimp only at hSw); go_simp; try with_reducible rfl
          try simp only [Act.put, List.setIfInBounds_toArray, List.set_cons_zero, List.set_cons_succ]
          refine wpAnyZ_take (i := 3) (v := ?zv4) (ops_at rfl) (by kernel_rfl) (by kernel_rfl) (by kernel_rfl) (by kernel_rfl) [12] (by kernel_rfl) (by rfl) (fun _ _ _ h => h) (Or.inl ⟨by rfl, ?zhy4⟩) (by assumption) ?zrest4
          case zhy4 => intro w' hSw; (try dsimp only at hSw); go_simp; try with_reducible rfl
          try simp only [Act.put, List.setIfInBounds_toArray, List.set_cons_zero, List.set_cons_succ]
          refine wpAnyZ_take (i := 4) (v := ?zv5) (ops_at rfl) (by kernel_rfl) (by kernel_rfl) (by kernel_rfl) (by kernel_rfl) [12] (by kernel_rfl) (by rfl) (fun _ _ _ h => h) (Or.inl ⟨by rfl, ?zhy5⟩) (by assumption) ?zrest5
          case zhy5 => intro w' hSw; (try dsimp only at hSw); go_simp; try with_reducible rfl
          try simp only [Act.put, List.setIfInBounds_toArray, List.set_cons_zero, List.set_cons_succ]
          refine wpAnyZ_take (i := 5) (v := ?zv6) (ops_at rfl) (by kernel_rfl) (by kernel_rfl) (by kernel_rfl) (by kernel_rfl) [12] (by kernel_rfl) (by rfl) (fun _ _ _ h => h) (Or.inl ⟨by rfl, ?zhy6⟩) (by assumption) ?zrest6
          case zhy6 => intro w' hSw; (try dsimp only at hSw); go_simp; try with_reducible rfl
          try simp only [Act.put, List.setIfInBounds_toArray, List.set_cons_zero, List.set_cons_succ]
          refine wpAnyZ_two (i := 6) (j := 10) (by kernel_rfl) (ops_at rfl) (ops_at rfl) (fun K hK => ?_) (fun K hK => ?_)
          · go_simp
            refine hK.out _ _ (by exact keep17) (fun hHeld => ?_)
            clear hK K
            try simp only [Act.put, List.setIfInBounds_toArray, List.set_cons_zero, List.set_cons_succ]
            refine wpAnyZ_two (i := 7) (j := 10) (by kernel_rfl) (ops_at rfl) (ops_at rfl) (fun K hK => ?_) (fun K hK => ?_)
            · go_simp
              refine hK.out _ _ (by exact keep17) (fun hHeld => ?_)
              clear hK K
              try simp only [Act.put, List.setIfInBounds_toArray, List.set_cons_zero, List.set_cons_succ]
              refine wpAnyZ_take (i := 8) (v := ?zv7) (ops_at rfl) (by kernel_rfl) (by kernel_rfl) (by kernel_rfl) (by kernel_rfl) [12] (by kernel_rfl) (by rfl) (fun _ _ _ h => h) (Or.inl ⟨by rfl, ?zhy7⟩) (by assumption) ?zrest7
              case zhy7 => intro w' hSw; (try dsimp only at hSw); go_simp; try with_reducible rfl
              try simp only [Act.put, List.setIfInBounds_toArray, List.set_cons_zero, List.set_cons_succ]
              refine wpAnyZ_take (i := 9) (v := ?zv8) (ops_at rfl) (by kernel_rfl) (by kernel_rfl) (by kernel_rfl) (by kernel_rfl) [12] (by kernel_rfl) (by rfl) (fun _ _ _ h => h) (Or.inl ⟨by rfl, ?zhy8⟩) (by assumption) ?zrest8
              case zhy8 => intro w' hSw; (try dsimp only at hSw); go_simp; try with_reducible rfl
              try simp only [Act.put, List.setIfInBounds_toArray, List.set_cons_zero, List.set_cons_succ]
              refine wpAnyZ_one (i := 10) (by kernel_rfl) (ops_at rfl) (fun K hK => ?_)
              go_simp
              refine hK.out _ _ (by exact keep17) (fun hHeld => ?_)
              clear hK K
              try simp only [Act.put, List.setIfInBounds_toArray, List.set_cons_zero, List.set_cons_succ]
              refine wpAnyZ_one (i := 11) (by kernel_rfl) (ops_at rfl) (fun K hK => ?_)
              go_simp
              refine hK.out _ _ (by exact keep17) (fun hHeld => ?_)
              clear hK K
              try simp only [Act.put, List.setIfInBounds_toArray, List.set_cons_zero, List.set_cons_succ]
              refine wpAnyZ_free (i := 12) (by kernel_rfl) (ops_at rfl) (by kernel_rfl) (fun K hK => ?_)
              go_simp
              refine hK.out _ _ ?_
              clear hK K
              try simp only [Act.put, List.setIfInBounds_toArray, List.set_cons_zero, List.set_cons_succ]
              refine wpAnyZ_done (by kernel_rfl) ?_ _
              go_wp2_with fail
              go_meet
              exact S17
            · go_simp
              refine hK.out _ _ (by exact keep17) (fun hHeld => ?_)
              clear hK K
              try simp only [Act.put, List.setIfInBounds_toArray, List.set_cons_zero, List.set_cons_succ]
              refine wpAnyZ_one (i := 7) (by kernel_rfl) (ops_at rfl) (fun K hK => ?_)
              go_simp
              refine hK.out _ _ (by exact keep17) (fun hHeld => ?_)
              clear hK K
              try simp only [Act.put, List.setIfInBounds_toArray, List.set_cons_zero, List.set_cons_succ]
              refine wpAnyZ_take (i := 8) (v := ?zv9) (ops_at rfl) (by kernel_rfl) (by kernel_rfl) (by kernel_rfl) (by kernel_rfl) [12] (by kernel_rfl) (by rfl) (fun _ _ _ h => h) (Or.inl ⟨by rfl, ?zhy9⟩) (by assumption) ?zrest9
              case zhy9 => intro w' hSw; (try dsimp only at hSw); go_simp; try with_reducible rfl
              try simp only [Act.put, List.setIfInBounds_toArray, List.set_cons_zero, List.set_cons_succ]
              refine wpAnyZ_take (i := 9) (v := ?zv10) (ops_at rfl) (by kernel_rfl) (by kernel_rfl) (by kernel_rfl) (by kernel_rfl) [12] (by kernel_rfl) (by rfl) (fun _ _ _ h => h) (Or.inl ⟨by rfl, ?zhy10⟩) (by assumption) ?zrest10
              case zhy10 => intro w' hSw; (try dsimp only at hSw); go_simp; try with_reducible rfl
              try simp only [Act.put, List.setIfInBounds_toArray, List.set_cons_zero, List.set_cons_succ]
              refine wpAnyZ_one (i := 11) (by kernel_rfl) (ops_at rfl) (fun K hK => ?_)
              go_simp
              refine hK.out _ _ (by exact keep17) (fun hHeld => ?_)
              clear hK K
              try simp only [Act.put, List.setIfInBounds_toArray, List.set_cons_zero, List.set_cons_succ]
              refine wpAnyZ_free (i := 12) (by kernel_rfl) (ops_at rfl) (by kernel_rfl) (fun K hK => ?_)
              go_simp
              refine hK.out _ _ ?_
              clear hK K
              try simp only [Act.put, List.setIfInBounds_toArray, List.set_cons_zero, List.set_cons_succ]
              refine wpAnyZ_done (by kernel_rfl) ?_ _
              go_wp2_with fail
              go_meet
              exact S17
          · go_simp
            refine hK.out _ _ (by exact keep17) (fun hHeld => ?_)
            clear hK K
            try simp only [Act.put, List.setIfInBounds_toArray, List.set_cons_zero, List.set_cons_succ]
            refine wpAnyZ_one (i := 6) (by kernel_rfl) (ops_at rfl) (fun K hK => ?_)
            go_simp
            refine hK.out _ _ (by exact keep17) (fun hHeld => ?_)
            clear hK K
            try simp only [Act.put, List.setIfInBounds_toArray, List.set_cons_zero, List.set_cons_succ]
            refine wpAnyZ_one (i := 7) (by kernel_rfl) (ops_at rfl) (fun K hK => ?_)
            go_simp
            refine hK.out _ _ (by exact keep17) (fun hHeld => ?_)
            clear hK K
            try simp only [Act.put, List.setIfInBounds_toArray, List.set_cons_zero, List.set_cons_succ]
            refine wpAnyZ_take (i := 8) (v := ?zv11) (ops_at rfl) (by kernel_rfl) (by kernel_rfl) (by kernel_rfl) (by kernel_rfl) [12] (by kernel_rfl) (by rfl) (fun _ _ _ h => h) (Or.inl ⟨by rfl, ?zhy11⟩) (by assumption) ?zrest11
            case zhy11 => intro w' hSw; (try dsimp only at hSw); go_simp; try with_reducible rfl
            try simp only [Act.put, List.setIfInBounds_toArray, List.set_cons_zero, List.set_cons_succ]
            refine wpAnyZ_take (i := 9) (v := ?zv12) (ops_at rfl) (by kernel_rfl) (by kernel_rfl) (by kernel_rfl) (by kernel_rfl) [12] (by kernel_rfl) (by rfl) (fun _ _ _ h => h) (Or.inl ⟨by rfl, ?zhy12⟩) (by assumption) ?zrest12
            case zhy12 => intro w' hSw; (try dsimp only at hSw); go_simp; try with_reducible rfl
            try simp only [Act.put, List.setIfInBounds_toArray, List.set_cons_zero, List.set_cons_succ]
            refine wpAnyZ_one (i := 11) (by kernel_rfl) (ops_at rfl) (fun K hK => ?_)
            go_simp
            refine hK.out _ _ (by exact keep17) (fun hHeld => ?_)
            clear hK K
            try simp only [Act.put, List.setIfInBounds_toArray, List.set_cons_zero, List.set_cons_succ]
            refine wpAnyZ_free (i := 12) (by kernel_rfl) (ops_at rfl) (by kernel_rfl) (fun K hK => ?_)
            go_simp
            refine hK.out _ _ ?_
            clear hK K
            try simp only [Act.put, List.setIfInBounds_toArray, List.set_cons_zero, List.set_cons_succ]
            refine wpAnyZ_done (by kernel_rfl) ?_ _
            go_wp2_with fail
            go_meet
            exact S17
        case rest =>
        have S5 := hcut
        clear hcut
        have hwk : IntKind.i64.wrap ((k : Int) + 1) = (k : Int) + 1 := by rw [IntKind.wrap_i64]; omega
        obtain ⟨ek, hek⟩ : ∃ ek, endK s now k = ek := ⟨_, rfl⟩
        rw [hek] at S5 HE
        clear hek HQs HCell hcl
        go_wp2_with fail
        refine wp_region_heldZ (S := (fun w' => w'.cell? ⟨g7, 6, none⟩ = some (.int .i64 ek) ∧ (w'.cell? ⟨g2, 0, none⟩ = some (.slice s.na s.nn s.nc) ∧ w'.cell? ⟨g2, 1, none⟩ = some (.slice s.ja s.jn s.jc) ∧ w'.cell? ⟨g2, 2, none⟩ = some (.int .i64 s.goal) ∧ w'.cell? ⟨g2, 3, none⟩ = some (.int .i64 s.prior) ∧ w'.cell? ⟨g2, 4, none⟩ = some (.int .i64 s.mode) ∧ w'.cell? ⟨g2, 5, none⟩ = some (.int .i64 s.term)))) 9 (by kernel_rfl) (by exact ⟨S5.drew.cell 4 rfl 6 rfl, S5.drew.sC 1 rfl⟩) (fun hHeld => ?_)
        change wpAnyZ _ _ _ _ _ 9 10 (Array.replicate 10 false) _ _
        refine wpAnyZ_take (i := 0) (v := ?v22) (ops_at rfl) (by kernel_rfl) (by kernel_rfl) (by kernel_rfl) (by kernel_rfl) [9] (by kernel_rfl) (by rfl) (fun _ _ _ h => h) (Or.inl ⟨by rfl, ?hy22⟩) (by assumption) ?rest22
        case hy22 => intro w' hSw; (try dsimp only at hSw); go_simp; try with_reducible rfl
        try simp only [Act.put, List.setIfInBounds_toArray, List.set_cons_zero, List.set_cons_succ]
        refine wpAnyZ_take (i := 1) (v := ?v23) (ops_at rfl) (by kernel_rfl) (by kernel_rfl) (by kernel_rfl) (by kernel_rfl) [9] (by kernel_rfl) (by rfl) (fun _ _ _ h => h) (Or.inl ⟨by rfl, ?hy23⟩) (by assumption) ?rest23
        case hy23 => intro w' hSw; (try dsimp only at hSw); go_simp; try with_reducible rfl
        try simp only [Act.put, List.setIfInBounds_toArray, List.set_cons_zero, List.set_cons_succ]
        refine wpAnyZ_take (i := 2) (v := ?v24) (ops_at rfl) (by kernel_rfl) (by kernel_rfl) (by kernel_rfl) (by kernel_rfl) [9] (by kernel_rfl) (by rfl) (fun _ _ _ h => h) (Or.inl ⟨by rfl, ?hy24⟩) (by assumption) ?rest24
        case hy24 => intro w' hSw; (try dsimp only at hSw); go_simp; try with_reducible rfl
        try simp only [Act.put, List.setIfInBounds_toArray, List.set_cons_zero, List.set_cons_succ]
        refine wpAnyZ_take (i := 3) (v := ?v25) (ops_at rfl) (by kernel_rfl) (by kernel_rfl) (by kernel_rfl) (by kernel_rfl) [9] (by kernel_rfl) (by rfl) (fun _ _ _ h => h) (Or.inl ⟨by rfl, ?hy25⟩) (by assumption) ?rest25
        case hy25 => intro w' hSw; (try dsimp only at hSw); go_simp; try with_reducible rfl
        try simp only [Act.put, List.setIfInBounds_toArray, List.set_cons_zero, List.set_cons_succ]
        refine wpAnyZ_take (i := 4) (v := ?v26) (ops_at rfl) (by kernel_rfl) (by kernel_rfl) (by kernel_rfl) (by kernel_rfl) [9] (by kernel_rfl) (by rfl) (fun _ _ _ h => h) (Or.inl ⟨by rfl, ?hy26⟩) (by assumption) ?rest26
        case hy26 => intro w' hSw; (try dsimp only at hSw); go_simp; try with_reducible rfl
        try simp only [Act.put, List.setIfInBounds_toArray, List.set_cons_zero, List.set_cons_succ]
        refine wpAnyZ_take (i := 5) (v := ?v27) (ops_at rfl) (by kernel_rfl) (by kernel_rfl) (by kernel_rfl) (by kernel_rfl) [9] (by kernel_rfl) (by rfl) (fun _ _ _ h => h) (Or.inl ⟨by rfl, ?hy27⟩) (by assumption) ?rest27
        case hy27 => intro w' hSw; (try dsimp only at hSw); go_simp; try with_reducible rfl
        try simp only [Act.put, List.setIfInBounds_toArray, List.set_cons_zero, List.set_cons_succ]
        refine wpAnyZ_one (i := 6) (by kernel_rfl) (ops_at rfl) (fun K hK => ?_)
        go_simp
        refine (ahEnd s ((k : Int) + 1) now _ (HS.out.all S5.drew.fin) hjn h0 h1 HCm.out (by omega) (by omega)).mono ?_
        rintro e w6 ⟨rfl, hb6⟩
        have S6 := S5.drew.grow hb6
        clear hb6
        have f18 := S6.frozen 4 rfl 6
        refine hK.out _ _ (by exact ⟨S6.cell 4 rfl 6 rfl, S6.sC 1 rfl⟩) (fun hHeld => ?_)
        clear hK K
        try simp only [Act.put, List.setIfInBounds_toArray, List.set_cons_zero, List.set_cons_succ]
        refine wpAnyZ_take (i := 7) (v := ?v28) (ops_at rfl) (by kernel_rfl) (by kernel_rfl) (by kernel_rfl) (by kernel_rfl) [9] (by kernel_rfl) (by rfl) (fun _ _ _ h => h) (Or.inl ⟨by rfl, ?hy28⟩) (by assumption) ?rest28
        case hy28 => intro w' hSw; (try dsimp only at hSw); go_simp; try with_reducible rfl
        try simp only [Act.put, List.setIfInBounds_toArray, List.set_cons_zero, List.set_cons_succ]
        refine wpAnyZ_take (i := 8) (v := ?v29) (ops_at rfl) (by kernel_rfl) (by kernel_rfl) (by kernel_rfl) (by kernel_rfl) [9] (by kernel_rfl) (by rfl) (fun _ _ _ h => h) (Or.inl ⟨by rfl, ?hy29⟩) (by assumption) ?rest29
        case hy29 => intro w' hSw; (try dsimp only at hSw); go_simp; try with_reducible rfl
        try simp only [Act.put, List.setIfInBounds_toArray, List.set_cons_zero, List.set_cons_succ]
        refine wpAnyZ_free (i := 9) (by kernel_rfl) (ops_at rfl) (by kernel_rfl) (fun K hK => ?_)
        go_simp
        refine hK.out _ _ ?_
        clear hK K
        try simp only [Act.put, List.setIfInBounds_toArray, List.set_cons_zero, List.set_cons_succ]
        refine wpAnyZ_done (by kernel_rfl) ?_ _
        have S7 := S6.setCell 4 rfl 6 (.int .i64 (max ek (endS s ((k : Int) + 1) now)))
        go_wp2
        go_roundw
        case rel => exact ⟨k + 1, by omega, by go_num, by rw [HE.out]; exact S7.take 5⟩
        case measure => simp [intOf]; omega
    have g0 : decide ((k : Int) < (s.nn : Int)) = true := decide_eq_true (by omega)
    have g0n : decide (k < s.nn) = true := decide_eq_true hlt
    have hkl : k < s.N.length := by rw [HS.out.nn]; exact hlt
    have i0 := fun wx => idxND s.na s.nn s.nc (fun h => HS.out.n.ok (by rw [HS.out.nn]; exact h)) k hlt wx
    obtain ⟨y0, y1, y2, y3, y4⟩ := (HS.out.n.all eNDok Sk.fin).ndAt hkl
    have E1 : Hid (cntP (·.up) s.N (k + 1) = cntP (·.up) s.N k + bI s.N[k].up) := cntP_step _ _ _ hkl
    have E2 : Hid (cntP (·.cordon) s.N (k + 1) = cntP (·.cordon) s.N k + bI s.N[k].cordon) := cntP_step _ _ _ hkl
    have E3 : Hid (cntP (·.moving) s.N (k + 1) = cntP (·.moving) s.N k + bI s.N[k].moving) := cntP_step _ _ _ hkl
    have E4 : Hid (cntP (·.free) s.N (k + 1) = cntP (·.free) s.N k + bI s.N[k].free) := cntP_step _ _ _ hkl
    have E5 : Hid (cntP (rightN s) s.N (k + 1) = cntP (rightN s) s.N k + bI (rightN s s.N[k])) := cntP_step _ _ _ hkl
    obtain ⟨b1, b1'⟩ := cntP_le (·.up) s.N k
    obtain ⟨b2, b2'⟩ := cntP_le (·.cordon) s.N k
    obtain ⟨b3, b3'⟩ := cntP_le (·.moving) s.N k
    obtain ⟨b4, b4'⟩ := cntP_le (·.free) s.N k
    obtain ⟨b5, b5'⟩ := cntP_le (rightN s) s.N k
    have HD : Hid (diK s now (k + 1) = ⟨cntP (·.up) s.N (k + 1), cntP (·.cordon) s.N (k + 1), cntP (·.moving) s.N (k + 1), (behK s s.nn).length, cntP (·.free) s.N (k + 1), now, 100⟩) := rfl
    unfold diK at Sk
    rw [E1.out, E2.out, E3.out, E4.out] at HD
    generalize s.N[k] = x at *
    generalize adr s.na (k * 5) = A at *
    generalize cntP (·.up) s.N k = cU at *
    generalize cntP (·.cordon) s.N k = cC at *
    generalize cntP (·.moving) s.N k = cM at *
    generalize cntP (·.free) s.N k = cF at *
    generalize cntP (rightN s) s.N k = cR at *
    clear E1 E2 E3 E4
    have S5 : St w _ [cellsT g1 23 (#[.int .i64 c.nodes, .int .i64 (n : Int), .int .i64 c.quota, .int .i64 c.wave, .int .i64 c.lease, .int .i64 c.retry, .int .i64 c.deadline, .int .i64 c.room, .int .i64 c.disk] : Array Value).toList, cellsT g2 27 s.cs, cellsT g6 34 (#[.int .i64 0, .int .i64 0, .int .i64 0, .int .i64 0, .int .i64 0, .slice none 0 0, .int .i64 0, .int .i64 0] : Array Value).toList, cellsT gq 37 (qCells s.J n 0), cellsT g7 34 (DI.cs ⟨cU, cC, cM, (behK s s.nn).length, cF, now, 100⟩ (.slice (some ⟨gq, 0, none⟩) n n)), cellsT wr.heap.size 39 x.cs] := Sk.newAt 39 #[.bool x.up, .bool x.cordon, .bool x.moving, .int .i64 x.version, .int .i64 x.job] wr.heap.size rfl
    go_wp2_with fail
    generalize wr.heap.size = gn at *
    generalize wr.alloc _ = w5 at *
    clear y0 y1 y2 y3 y4 i0 Sk
    refine wp_region_heldZ (S := (fun w' => w'.cell? ⟨g7, 0, none⟩ = some (.int .i64 cU) ∧ w'.cell? ⟨gn, 0, none⟩ = some (.bool x.up))) 7 (by kernel_rfl) (by exact ⟨S5.drew.cell 4 rfl 0 rfl, S5.drew.cell 5 rfl 0 rfl⟩) (fun hHeld => ?_)
    change wpAnyZ _ _ _ _ _ 7 8 (Array.replicate 8 false) _ _
    refine wpAnyZ_take (i := 0) (v := ?v30) (ops_at rfl) (by kernel_rfl) (by kernel_rfl) (by kernel_rfl) (by kernel_rfl) [7] (by kernel_rfl) (by rfl) (fun _ _ _ h => h) (Or.inl ⟨by rfl, ?hy30⟩) (by assumption) ?rest30
    case hy30 => intro w' hSw; (try dsimp only at hSw); go_simp; try with_reducible rfl
    try simp only [Act.put, List.setIfInBounds_toArray, List.set_cons_zero, List.set_cons_succ]
    refine wpAnyZ_take (i := 1) (v := ?v31) (ops_at rfl) (by kernel_rfl) (by kernel_rfl) (by kernel_rfl) (by kernel_rfl) [7] (by kernel_rfl) (by rfl) (fun _ _ _ h => h) (Or.inl ⟨by rfl, ?hy31⟩) (by assumption) ?rest31
    case hy31 => intro w' hSw; (try dsimp only at hSw); go_simp; try with_reducible rfl
    try simp only [Act.put, List.setIfInBounds_toArray, List.set_cons_zero, List.set_cons_succ]
    refine wpAnyZ_take (i := 2) (v := ?v32) (ops_at rfl) (by kernel_rfl) (by kernel_rfl) (by kernel_rfl) (by kernel_rfl) [7] (by kernel_rfl) (by rfl) (fun _ _ _ h => h) (Or.inl ⟨by rfl, ?hy32⟩) (by assumption) ?rest32
    case hy32 => intro w' hSw; (try dsimp only at hSw); go_simp; try with_reducible rfl
    try simp only [Act.put, List.setIfInBounds_toArray, List.set_cons_zero, List.set_cons_succ]
    refine wpAnyZ_take (i := 3) (v := ?v33) (ops_at rfl) (by kernel_rfl) (by kernel_rfl) (by kernel_rfl) (by kernel_rfl) [7] (by kernel_rfl) (by rfl) (fun _ _ _ h => h) (Or.inl ⟨by rfl, ?hy33⟩) (by assumption) ?rest33
    case hy33 => intro w' hSw; (try dsimp only at hSw); go_simp; try with_reducible rfl
    try simp only [Act.put, List.setIfInBounds_toArray, List.set_cons_zero, List.set_cons_succ]
    refine wpAnyZ_one (i := 4) (by kernel_rfl) (ops_at rfl) (fun K hK => ?_)
    go_simp
    refine (dOne x.up _).mono ?_
    rintro e w6 ⟨rfl, rfl⟩
    have f6 := S5.drew.frozen 4 rfl 0
    have hw6 : IntKind.i64.wrap (cU + bI x.up) = cU + bI x.up := by rw [IntKind.wrap_i64]; have := bI_le x.up; omega
    have S6 := (S5.setCell 4 rfl 0 (.int .i64 (cU + bI x.up))).drew
    refine hK.out _ _ (by exact ⟨S5.drew.cell 4 rfl 0 rfl, S5.drew.cell 5 rfl 0 rfl⟩) (fun hHeld => ?_)
    clear hK K
    try simp only [Act.put, List.setIfInBounds_toArray, List.set_cons_zero, List.set_cons_succ]
    refine wpAnyZ_take (i := 5) (v := ?v34) (ops_at rfl) (by kernel_rfl) (by kernel_rfl) (by kernel_rfl) (by kernel_rfl) [7] (by kernel_rfl) (by rfl) (fun _ _ _ h => h) (Or.inl ⟨by rfl, ?hy34⟩) (by assumption) ?rest34
    case hy34 => intro w' hSw; (try dsimp only at hSw); go_simp; try with_reducible rfl
    try simp only [Act.put, List.setIfInBounds_toArray, List.set_cons_zero, List.set_cons_succ]
    refine wpAnyZ_take (i := 6) (v := ?v35) (ops_at rfl) (by kernel_rfl) (by kernel_rfl) (by kernel_rfl) (by kernel_rfl) [7] (by kernel_rfl) (by rfl) (fun _ _ _ h => h) (Or.inl ⟨by rfl, ?hy35⟩) (by assumption) ?rest35
    case hy35 => intro w' hSw; (try dsimp only at hSw); go_simp; try with_reducible rfl
    try simp only [Act.put, List.setIfInBounds_toArray, List.set_cons_zero, List.set_cons_succ]
    refine wpAnyZ_free (i := 7) (by kernel_rfl) (ops_at rfl) (by kernel_rfl) (fun K hK => ?_)
    go_simp
    refine hK.out _ _ ?_
    clear hK K
    try simp only [Act.put, List.setIfInBounds_toArray, List.set_cons_zero, List.set_cons_succ]
    refine wpAnyZ_done (by kernel_rfl) ?_ _
    clear f6 hw6
    have S5 := S6
    clear S6
    go_wp2_with fail
    obtain ⟨w9, hw9⟩ : ∃ w9, (w5.setCell ⟨g7, 0, none⟩ (.int .i64 (cU + bI x.up))).drew = w9 := ⟨_, rfl⟩
    rw [hw9] at S5 ⊢
    clear hw9
    obtain ⟨w5, rfl⟩ : ∃ w5, w5 = w9 := ⟨_, rfl⟩
    refine wp_region_heldZ (S := (fun w' => w'.cell? ⟨g7, 1, none⟩ = some (.int .i64 cC) ∧ w'.cell? ⟨gn, 1, none⟩ = some (.bool x.cordon))) 7 (by kernel_rfl) (by exact ⟨S5.drew.cell 4 rfl 1 rfl, S5.drew.cell 5 rfl 1 rfl⟩) (fun hHeld => ?_)
    change wpAnyZ _ _ _ _ _ 7 8 (Array.replicate 8 false) _ _
    refine wpAnyZ_take (i := 0) (v := ?v36) (ops_at rfl) (by kernel_rfl) (by kernel_rfl) (by kernel_rfl) (by kernel_rfl) [7] (by kernel_rfl) (by rfl) (fun _ _ _ h => h) (Or.inl ⟨by rfl, ?hy36⟩) (by assumption) ?rest36
    case hy36 => intro w' hSw; (try dsimp only at hSw); go_simp; try with_reducible rfl
    try simp only [Act.put, List.setIfInBounds_toArray, List.set_cons_zero, List.set_cons_succ]
    refine wpAnyZ_take (i := 1) (v := ?v37) (ops_at rfl) (by kernel_rfl) (by kernel_rfl) (by kernel_rfl) (by kernel_rfl) [7] (by kernel_rfl) (by rfl) (fun _ _ _ h => h) (Or.inl ⟨by rfl, ?hy37⟩) (by assumption) ?rest37
    case hy37 => intro w' hSw; (try dsimp only at hSw); go_simp; try with_reducible rfl
    try simp only [Act.put, List.setIfInBounds_toArray, List.set_cons_zero, List.set_cons_succ]
    refine wpAnyZ_take (i := 2) (v := ?v38) (ops_at rfl) (by kernel_rfl) (by kernel_rfl) (by kernel_rfl) (by kernel_rfl) [7] (by kernel_rfl) (by rfl) (fun _ _ _ h => h) (Or.inl ⟨by rfl, ?hy38⟩) (by assumption) ?rest38
    case hy38 => intro w' hSw; (try dsimp only at hSw); go_simp; try with_reducible rfl
    try simp only [Act.put, List.setIfInBounds_toArray, List.set_cons_zero, List.set_cons_succ]
    refine wpAnyZ_take (i := 3) (v := ?v39) (ops_at rfl) (by kernel_rfl) (by kernel_rfl) (by kernel_rfl) (by kernel_rfl) [7] (by kernel_rfl) (by rfl) (fun _ _ _ h => h) (Or.inl ⟨by rfl, ?hy39⟩) (by assumption) ?rest39
    case hy39 => intro w' hSw; (try dsimp only at hSw); go_simp; try with_reducible rfl
    try simp only [Act.put, List.setIfInBounds_toArray, List.set_cons_zero, List.set_cons_succ]
    refine wpAnyZ_one (i := 4) (by kernel_rfl) (ops_at rfl) (fun K hK => ?_)
    go_simp
    refine (dOne x.cordon _).mono ?_
    rintro e w6 ⟨rfl, rfl⟩
    have f6 := S5.drew.frozen 4 rfl 1
    have hw6 : IntKind.i64.wrap (cC + bI x.cordon) = cC + bI x.cordon := by rw [IntKind.wrap_i64]; have := bI_le x.cordon; omega
    have S6 := (S5.setCell 4 rfl 1 (.int .i64 (cC + bI x.cordon))).drew
    refine hK.out _ _ (by exact ⟨S5.drew.cell 4 rfl 1 rfl, S5.drew.cell 5 rfl 1 rfl⟩) (fun hHeld => ?_)
    clear hK K
    try simp only [Act.put, List.setIfInBounds_toArray, List.set_cons_zero, List.set_cons_succ]
    refine wpAnyZ_take (i := 5) (v := ?v40) (ops_at rfl) (by kernel_rfl) (by kernel_rfl) (by kernel_rfl) (by kernel_rfl) [7] (by kernel_rfl) (by rfl) (fun _ _ _ h => h) (Or.inl ⟨by rfl, ?hy40⟩) (by assumption) ?rest40
    case hy40 => intro w' hSw; (try dsimp only at hSw); go_simp; try with_reducible rfl
    try simp only [Act.put, List.setIfInBounds_toArray, List.set_cons_zero, List.set_cons_succ]
    refine wpAnyZ_take (i := 6) (v := ?v41) (ops_at rfl) (by kernel_rfl) (by kernel_rfl) (by kernel_rfl) (by kernel_rfl) [7] (by kernel_rfl) (by rfl) (fun _ _ _ h => h) (Or.inl ⟨by rfl, ?hy41⟩) (by assumption) ?rest41
    case hy41 => intro w' hSw; (try dsimp only at hSw); go_simp; try with_reducible rfl
    try simp only [Act.put, List.setIfInBounds_toArray, List.set_cons_zero, List.set_cons_succ]
    refine wpAnyZ_free (i := 7) (by kernel_rfl) (ops_at rfl) (by kernel_rfl) (fun K hK => ?_)
    go_simp
    refine hK.out _ _ ?_
    clear hK K
    try simp only [Act.put, List.setIfInBounds_toArray, List.set_cons_zero, List.set_cons_succ]
    refine wpAnyZ_done (by kernel_rfl) ?_ _
    clear f6 hw6
    have S5 := S6
    clear S6
    go_wp2_with fail
    obtain ⟨w9, hw9⟩ : ∃ w9, (w5.setCell ⟨g7, 1, none⟩ (.int .i64 (cC + bI x.cordon))).drew = w9 := ⟨_, rfl⟩
    rw [hw9] at S5 ⊢
    clear hw9
    obtain ⟨w5, rfl⟩ : ∃ w5, w5 = w9 := ⟨_, rfl⟩
    refine wp_region_heldZ (S := (fun w' => w'.cell? ⟨g7, 2, none⟩ = some (.int .i64 cM) ∧ w'.cell? ⟨gn, 2, none⟩ = some (.bool x.moving))) 7 (by kernel_rfl) (by exact ⟨S5.drew.cell 4 rfl 2 rfl, S5.drew.cell 5 rfl 2 rfl⟩) (fun hHeld => ?_)
    change wpAnyZ _ _ _ _ _ 7 8 (Array.replicate 8 false) _ _
    refine wpAnyZ_take (i := 0) (v := ?v42) (ops_at rfl) (by kernel_rfl) (by kernel_rfl) (by kernel_rfl) (by kernel_rfl) [7] (by kernel_rfl) (by rfl) (fun _ _ _ h => h) (Or.inl ⟨by rfl, ?hy42⟩) (by assumption) ?rest42
    case hy42 => intro w' hSw; (try dsimp only at hSw); go_simp; try with_reducible rfl
    try simp only [Act.put, List.setIfInBounds_toArray, List.set_cons_zero, List.set_cons_succ]
    refine wpAnyZ_take (i := 1) (v := ?v43) (ops_at rfl) (by kernel_rfl) (by kernel_rfl) (by kernel_rfl) (by kernel_rfl) [7] (by kernel_rfl) (by rfl) (fun _ _ _ h => h) (Or.inl ⟨by rfl, ?hy43⟩) (by assumption) ?rest43
    case hy43 => intro w' hSw; (try dsimp only at hSw); go_simp; try with_reducible rfl
    try simp only [Act.put, List.setIfInBounds_toArray, List.set_cons_zero, List.set_cons_succ]
    refine wpAnyZ_take (i := 2) (v := ?v44) (ops_at rfl) (by kernel_rfl) (by kernel_rfl) (by kernel_rfl) (by kernel_rfl) [7] (by kernel_rfl) (by rfl) (fun _ _ _ h => h) (Or.inl ⟨by rfl, ?hy44⟩) (by assumption) ?rest44
    case hy44 => intro w' hSw; (try dsimp only at hSw); go_simp; try with_reducible rfl
    try simp only [Act.put, List.setIfInBounds_toArray, List.set_cons_zero, List.set_cons_succ]
    refine wpAnyZ_take (i := 3) (v := ?v45) (ops_at rfl) (by kernel_rfl) (by kernel_rfl) (by kernel_rfl) (by kernel_rfl) [7] (by kernel_rfl) (by rfl) (fun _ _ _ h => h) (Or.inl ⟨by rfl, ?hy45⟩) (by assumption) ?rest45
    case hy45 => intro w' hSw; (try dsimp only at hSw); go_simp; try with_reducible rfl
    try simp only [Act.put, List.setIfInBounds_toArray, List.set_cons_zero, List.set_cons_succ]
    refine wpAnyZ_one (i := 4) (by kernel_rfl) (ops_at rfl) (fun K hK => ?_)
    go_simp
    refine (dOne x.moving _).mono ?_
    rintro e w6 ⟨rfl, rfl⟩
    have f6 := S5.drew.frozen 4 rfl 2
    have hw6 : IntKind.i64.wrap (cM + bI x.moving) = cM + bI x.moving := by rw [IntKind.wrap_i64]; have := bI_le x.moving; omega
    have S6 := (S5.setCell 4 rfl 2 (.int .i64 (cM + bI x.moving))).drew
    refine hK.out _ _ (by exact ⟨S5.drew.cell 4 rfl 2 rfl, S5.drew.cell 5 rfl 2 rfl⟩) (fun hHeld => ?_)
    clear hK K
    try simp only [Act.put, List.setIfInBounds_toArray, List.set_cons_zero, List.set_cons_succ]
    refine wpAnyZ_take (i := 5) (v := ?v46) (ops_at rfl) (by kernel_rfl) (by kernel_rfl) (by kernel_rfl) (by kernel_rfl) [7] (by kernel_rfl) (by rfl) (fun _ _ _ h => h) (Or.inl ⟨by rfl, ?hy46⟩) (by assumption) ?rest46
    case hy46 => intro w' hSw; (try dsimp only at hSw); go_simp; try with_reducible rfl
    try simp only [Act.put, List.setIfInBounds_toArray, List.set_cons_zero, List.set_cons_succ]
    refine wpAnyZ_take (i := 6) (v := ?v47) (ops_at rfl) (by kernel_rfl) (by kernel_rfl) (by kernel_rfl) (by kernel_rfl) [7] (by kernel_rfl) (by rfl) (fun _ _ _ h => h) (Or.inl ⟨by rfl, ?hy47⟩) (by assumption) ?rest47
    case hy47 => intro w' hSw; (try dsimp only at hSw); go_simp; try with_reducible rfl
    try simp only [Act.put, List.setIfInBounds_toArray, List.set_cons_zero, List.set_cons_succ]
    refine wpAnyZ_free (i := 7) (by kernel_rfl) (ops_at rfl) (by kernel_rfl) (fun K hK => ?_)
    go_simp
    refine hK.out _ _ ?_
    clear hK K
    try simp only [Act.put, List.setIfInBounds_toArray, List.set_cons_zero, List.set_cons_succ]
    refine wpAnyZ_done (by kernel_rfl) ?_ _
    clear f6 hw6
    have S5 := S6
    clear S6
    go_wp2_with fail
    obtain ⟨w9, hw9⟩ : ∃ w9, (w5.setCell ⟨g7, 2, none⟩ (.int .i64 (cM + bI x.moving))).drew = w9 := ⟨_, rfl⟩
    rw [hw9] at S5 ⊢
    clear hw9
    obtain ⟨w5, rfl⟩ : ∃ w5, w5 = w9 := ⟨_, rfl⟩
    refine wp_region_heldZ (S := (fun w' => w'.cell? ⟨g7, 4, none⟩ = some (.int .i64 cF) ∧ w'.cell? ⟨gn, 0, none⟩ = some (.bool x.up) ∧ w'.cell? ⟨gn, 1, none⟩ = some (.bool x.cordon) ∧ w'.cell? ⟨gn, 2, none⟩ = some (.bool x.moving) ∧ w'.cell? ⟨gn, 3, none⟩ = some (.int .i64 x.version) ∧ w'.cell? ⟨gn, 4, none⟩ = some (.int .i64 x.job))) 7 (by kernel_rfl) (by exact ⟨S5.drew.cell 4 rfl 4 rfl, S5.drew.cell 5 rfl 0 rfl, S5.drew.cell 5 rfl 1 rfl, S5.drew.cell 5 rfl 2 rfl, S5.drew.cell 5 rfl 3 rfl, S5.drew.cell 5 rfl 4 rfl⟩) (fun hHeld => ?_)
    change wpAnyZ _ _ _ _ _ 7 8 (Array.replicate 8 false) _ _
    refine wpAnyZ_take (i := 0) (v := ?v48) (ops_at rfl) (by kernel_rfl) (by kernel_rfl) (by kernel_rfl) (by kernel_rfl) [7] (by kernel_rfl) (by rfl) (fun _ _ _ h => h) (Or.inl ⟨by rfl, ?hy48⟩) (by assumption) ?rest48
    case hy48 => intro w' hSw; (try dsimp only at hSw); go_simp; try with_reducible rfl
    try simp only [Act.put, List.setIfInBounds_toArray, List.set_cons_zero, List.set_cons_succ]
    refine wpAnyZ_take (i := 1) (v := ?v49) (ops_at rfl) (by kernel_rfl) (by kernel_rfl) (by kernel_rfl) (by kernel_rfl) [7] (by kernel_rfl) (by rfl) (fun _ _ _ h => h) (Or.inl ⟨by rfl, ?hy49⟩) (by assumption) ?rest49
    case hy49 => intro w' hSw; (try dsimp only at hSw); go_simp; try with_reducible rfl
    try simp only [Act.put, List.setIfInBounds_toArray, List.set_cons_zero, List.set_cons_succ]
    refine wpAnyZ_take (i := 2) (v := ?v50) (ops_at rfl) (by kernel_rfl) (by kernel_rfl) (by kernel_rfl) (by kernel_rfl) [7] (by kernel_rfl) (by rfl) (fun _ _ _ h => h) (Or.inl ⟨by rfl, ?hy50⟩) (by assumption) ?rest50
    case hy50 => intro w' hSw; (try dsimp only at hSw); go_simp; try with_reducible rfl
    try simp only [Act.put, List.setIfInBounds_toArray, List.set_cons_zero, List.set_cons_succ]
    refine wpAnyZ_one (i := 3) (by kernel_rfl) (ops_at rfl) (fun K hK => ?_)
    go_simp
    refine (bkFree x _).mono ?_
    rintro e w7 ⟨rfl, hb7⟩
    have S7 := S5.drew.grow hb7
    clear hb7
    refine hK.out _ _ (by exact ⟨S7.cell 4 rfl 4 rfl, S7.cell 5 rfl 0 rfl, S7.cell 5 rfl 1 rfl, S7.cell 5 rfl 2 rfl, S7.cell 5 rfl 3 rfl, S7.cell 5 rfl 4 rfl⟩) (fun hHeld => ?_)
    clear hK K
    try simp only [Act.put, List.setIfInBounds_toArray, List.set_cons_zero, List.set_cons_succ]
    refine wpAnyZ_one (i := 4) (by kernel_rfl) (ops_at rfl) (fun K hK => ?_)
    go_simp
    refine (dOne x.free _).mono ?_
    rintro e w6 ⟨rfl, rfl⟩
    have f6 := S7.frozen 4 rfl 4
    have hw6 : IntKind.i64.wrap (cF + bI x.free) = cF + bI x.free := by rw [IntKind.wrap_i64]; have := bI_le x.free; omega
    have S6 := S7.setCell 4 rfl 4 (.int .i64 (cF + bI x.free))
    refine hK.out _ _ (by exact ⟨S7.cell 4 rfl 4 rfl, S7.cell 5 rfl 0 rfl, S7.cell 5 rfl 1 rfl, S7.cell 5 rfl 2 rfl, S7.cell 5 rfl 3 rfl, S7.cell 5 rfl 4 rfl⟩) (fun hHeld => ?_)
    clear hK K
    try simp only [Act.put, List.setIfInBounds_toArray, List.set_cons_zero, List.set_cons_succ]
    refine wpAnyZ_take (i := 5) (v := ?v51) (ops_at rfl) (by kernel_rfl) (by kernel_rfl) (by kernel_rfl) (by kernel_rfl) [7] (by kernel_rfl) (by rfl) (fun _ _ _ h => h) (Or.inl ⟨by rfl, ?hy51⟩) (by assumption) ?rest51
    case hy51 => intro w' hSw; (try dsimp only at hSw); go_simp; try with_reducible rfl
    try simp only [Act.put, List.setIfInBounds_toArray, List.set_cons_zero, List.set_cons_succ]
    refine wpAnyZ_take (i := 6) (v := ?v52) (ops_at rfl) (by kernel_rfl) (by kernel_rfl) (by kernel_rfl) (by kernel_rfl) [7] (by kernel_rfl) (by rfl) (fun _ _ _ h => h) (Or.inl ⟨by rfl, ?hy52⟩) (by assumption) ?rest52
    case hy52 => intro w' hSw; (try dsimp only at hSw); go_simp; try with_reducible rfl
    try simp only [Act.put, List.setIfInBounds_toArray, List.set_cons_zero, List.set_cons_succ]
    refine wpAnyZ_free (i := 7) (by kernel_rfl) (ops_at rfl) (by kernel_rfl) (fun K hK => ?_)
    go_simp
    refine hK.out _ _ ?_
    clear hK K
    try simp only [Act.put, List.setIfInBounds_toArray, List.set_cons_zero, List.set_cons_succ]
    refine wpAnyZ_done (by kernel_rfl) ?_ _
    clear f6 hw6 S7
    have S5 := S6
    clear S6
    go_wp2_with fail
    obtain ⟨w9, hw9⟩ : ∃ w9, w6.setCell ⟨g7, 4, none⟩ (.int .i64 (cF + bI x.free)) = w9 := ⟨_, rfl⟩
    rw [hw9] at S5 ⊢
    clear hw9
    obtain ⟨w5, rfl⟩ : ∃ w5, w5 = w9 := ⟨_, rfl⟩
    obtain ⟨u, cd, mv, vr, jb⟩ := x
    simp only at S5 HD
    cases u
    case false =>
      have hw6 : IntKind.i64.wrap (cR + bI false) = cR + bI false := by rw [IntKind.wrap_i64]; have := bI_le false; omega
      refine wp_region_held_drew (S := (fun w' => w'.cell? ⟨gn, 0, none⟩ = some (.bool false))) (by kernel_rfl) (by exact S5.drew.cell 5 rfl 0 rfl) (fun hHeld => ?_)
      change wpAnyH _ _ _ _ _ 13 (Array.replicate 13 false) _ _
      refine wpAnyH_take (i := 0) (v := ?v53) (ops_at rfl) (by kernel_rfl) (by kernel_rfl) (by kernel_rfl) (fun _ _ _ h => h) (Or.inl ⟨by rfl, ?hy53⟩) (by assumption) ?rest53
      case hy53 => intro w' hSw; (try dsimp only at hSw); go_simp; try with_reducible rfl
      try simp only [Act.put, List.setIfInBounds_toArray, List.set_cons_zero, List.set_cons_succ]
      refine wpAnyH_take (i := 1) (v := ?v54) (ops_at rfl) (by kernel_rfl) (by kernel_rfl) (by kernel_rfl) (fun _ _ _ h => h) (Or.inl ⟨by rfl, ?hy54⟩) (by assumption) ?rest54
      case hy54 => intro w' hSw; (try dsimp only at hSw); go_simp; try with_reducible rfl
      try simp only [Act.put, List.setIfInBounds_toArray, List.set_cons_zero, List.set_cons_succ]
      refine wpAnyH_take (i := 2) (v := ?v55) (ops_at rfl) (by kernel_rfl) (by kernel_rfl) (by kernel_rfl) (fun _ _ _ h => h) (Or.inl ⟨by rfl, ?hy55⟩) (by assumption) ?rest55
      case hy55 => intro w' hSw; (try dsimp only at hSw); go_simp; try with_reducible rfl
      try simp only [Act.put, List.setIfInBounds_toArray, List.set_cons_zero, List.set_cons_succ]
      refine wpAnyH_take (i := 3) (v := ?v56) (ops_at rfl) (by kernel_rfl) (by kernel_rfl) (by kernel_rfl) (fun _ _ _ h => h) (Or.inl ⟨by rfl, ?hy56⟩) (by assumption) ?rest56
      case hy56 => intro w' hSw; (try dsimp only at hSw); go_simp; try with_reducible rfl
      try simp only [Act.put, List.setIfInBounds_toArray, List.set_cons_zero, List.set_cons_succ]
      refine wpAnyH_take (i := 4) (v := undef) (ops_at rfl) (by kernel_rfl) (by kernel_rfl) (by kernel_rfl) (fun _ _ _ h => h) (Or.inr ⟨by rfl, rfl⟩) (by assumption) ?rest57
      try simp only [Act.put, List.setIfInBounds_toArray, List.set_cons_zero, List.set_cons_succ]
      refine wpAnyH_take (i := 5) (v := undef) (ops_at rfl) (by kernel_rfl) (by kernel_rfl) (by kernel_rfl) (fun _ _ _ h => h) (Or.inr ⟨by rfl, rfl⟩) (by assumption) ?rest58
      try simp only [Act.put, List.setIfInBounds_toArray, List.set_cons_zero, List.set_cons_succ]
      refine wpAnyH_take (i := 6) (v := undef) (ops_at rfl) (by kernel_rfl) (by kernel_rfl) (by kernel_rfl) (fun _ _ _ h => h) (Or.inr ⟨by rfl, rfl⟩) (by assumption) ?rest59
      try simp only [Act.put, List.setIfInBounds_toArray, List.set_cons_zero, List.set_cons_succ]
      refine wpAnyH_take (i := 7) (v := undef) (ops_at rfl) (by kernel_rfl) (by kernel_rfl) (by kernel_rfl) (fun _ _ _ h => h) (Or.inr ⟨by rfl, rfl⟩) (by assumption) ?rest60
      try simp only [Act.put, List.setIfInBounds_toArray, List.set_cons_zero, List.set_cons_succ]
      refine wpAnyH_take (i := 8) (v := undef) (ops_at rfl) (by kernel_rfl) (by kernel_rfl) (by kernel_rfl) (fun _ _ _ h => h) (Or.inr ⟨by rfl, rfl⟩) (by assumption) ?rest61
      try simp only [Act.put, List.setIfInBounds_toArray, List.set_cons_zero, List.set_cons_succ]
      refine wpAnyH_take (i := 9) (v := ?v62) (ops_at rfl) (by kernel_rfl) (by kernel_rfl) (by kernel_rfl) (fun _ _ _ h => h) (Or.inl ⟨by rfl, ?hy62⟩) (by assumption) ?rest62
      case hy62 => intro w' hSw; (try dsimp only at hSw); go_simp; try with_reducible rfl
      try simp only [Act.put, List.setIfInBounds_toArray, List.set_cons_zero, List.set_cons_succ]
      refine wpAnyH_ready (rs := [10]) (by kernel_rfl) (by simp) ?_
      refine AllReadyH.cons (ops_at rfl) (fun K hK => ?_) AllReadyH.nil
      go_simp
      refine (dOne false _).mono ?_
      rintro e w6 ⟨rfl, rfl⟩
      refine hK.out _ _ (by exact S5.drew.cell 5 rfl 0 rfl) (fun hHeld => ?_)
      clear hK K
      try simp only [Act.put, List.setIfInBounds_toArray, List.set_cons_zero, List.set_cons_succ]
      refine wpAnyH_take (i := 11) (v := ?v64) (ops_at rfl) (by kernel_rfl) (by kernel_rfl) (by kernel_rfl) (fun _ _ _ h => h) (Or.inl ⟨by rfl, ?hy64⟩) (by assumption) ?rest64
      case hy64 => intro w' hSw; (try dsimp only at hSw); go_simp; try with_reducible rfl
      try simp only [Act.put, List.setIfInBounds_toArray, List.set_cons_zero, List.set_cons_succ]
      refine wpAnyH_take (i := 12) (v := ?v65) (ops_at rfl) (by kernel_rfl) (by kernel_rfl) (by kernel_rfl) (fun _ _ _ h => h) (Or.inl ⟨by rfl, ?hy65⟩) (by assumption) ?rest65
      case hy65 => intro w' hSw; (try dsimp only at hSw); go_simp; try with_reducible rfl
      try simp only [Act.put, List.setIfInBounds_toArray, List.set_cons_zero, List.set_cons_succ]
      refine wpAnyH_done (by kernel_rfl) ?_ _
      have E6 : Hid (cntP (rightN s) s.N (k + 1) = cR + bI false) := E5
      go_wp2
      go_roundw
      case rel => exact ⟨k + 1, by omega, by rw [E6.out], by go_num, by rw [HD.out]; exact S5.drew.take 5⟩
      case measure => simp [intOf]; omega
    obtain ⟨b, hb⟩ : ∃ b, (vr == s.meant) = b := ⟨_, rfl⟩
    have HB := hid hb
    have hw6 : IntKind.i64.wrap (cR + bI b) = cR + bI b := by rw [IntKind.wrap_i64]; have := bI_le b; omega
    have E6 : Hid (cntP (rightN s) s.N (k + 1) = cR + bI b) := by rw [Hid, ← hb]; exact E5.out
    refine wp_region_held_drew (S := (fun w' => w'.cell? ⟨gn, 0, none⟩ = some (.bool true) ∧ w'.cell? ⟨gn, 3, none⟩ = some (.int .i64 vr) ∧ (w'.cell? ⟨g2, 0, none⟩ = some (.slice s.na s.nn s.nc) ∧ w'.cell? ⟨g2, 1, none⟩ = some (.slice s.ja s.jn s.jc) ∧ w'.cell? ⟨g2, 2, none⟩ = some (.int .i64 s.goal) ∧ w'.cell? ⟨g2, 3, none⟩ = some (.int .i64 s.prior) ∧ w'.cell? ⟨g2, 4, none⟩ = some (.int .i64 s.mode) ∧ w'.cell? ⟨g2, 5, none⟩ = some (.int .i64 s.term)))) (by kernel_rfl) (by exact ⟨S5.drew.cell 5 rfl 0 rfl, S5.drew.cell 5 rfl 3 rfl, S5.drew.sC 1 rfl⟩) (fun hHeld => ?_)
    change wpAnyH _ _ _ _ _ 13 (Array.replicate 13 false) _ _
    refine wpAnyH_take (i := 0) (v := ?v66) (ops_at rfl) (by kernel_rfl) (by kernel_rfl) (by kernel_rfl) (fun _ _ _ h => h) (Or.inl ⟨by rfl, ?hy66⟩) (by assumption) ?rest66
    case hy66 => intro w' hSw; (try dsimp only at hSw); go_simp; try with_reducible rfl
    try simp only [Act.put, List.setIfInBounds_toArray, List.set_cons_zero, List.set_cons_succ]
    refine wpAnyH_take (i := 1) (v := ?v67) (ops_at rfl) (by kernel_rfl) (by kernel_rfl) (by kernel_rfl) (fun _ _ _ h => h) (Or.inl ⟨by rfl, ?hy67⟩) (by assumption) ?rest67
    case hy67 => intro w' hSw; (try dsimp only at hSw); go_simp; try with_reducible rfl
    try simp only [Act.put, List.setIfInBounds_toArray, List.set_cons_zero, List.set_cons_succ]
    refine wpAnyH_take (i := 2) (v := ?v68) (ops_at rfl) (by kernel_rfl) (by kernel_rfl) (by kernel_rfl) (fun _ _ _ h => h) (Or.inl ⟨by rfl, ?hy68⟩) (by assumption) ?rest68
    case hy68 => intro w' hSw; (try dsimp only at hSw); go_simp; try with_reducible rfl
    try simp only [Act.put, List.setIfInBounds_toArray, List.set_cons_zero, List.set_cons_succ]
    refine wpAnyH_take (i := 3) (v := ?v69) (ops_at rfl) (by kernel_rfl) (by kernel_rfl) (by kernel_rfl) (fun _ _ _ h => h) (Or.inl ⟨by rfl, ?hy69⟩) (by assumption) ?rest69
    case hy69 => intro w' hSw; (try dsimp only at hSw); go_simp; try with_reducible rfl
    try simp only [Act.put, List.setIfInBounds_toArray, List.set_cons_zero, List.set_cons_succ]
    refine wpAnyH_take (i := 4) (v := ?v70) (ops_at rfl) (by kernel_rfl) (by kernel_rfl) (by kernel_rfl) (fun _ _ _ h => h) (Or.inl ⟨by rfl, ?hy70⟩) (by assumption) ?rest70
    case hy70 => intro w' hSw; (try dsimp only at hSw); go_simp; try with_reducible rfl
    try simp only [Act.put, List.setIfInBounds_toArray, List.set_cons_zero, List.set_cons_succ]
    refine wpAnyH_take (i := 5) (v := ?v71) (ops_at rfl) (by kernel_rfl) (by kernel_rfl) (by kernel_rfl) (fun _ _ _ h => h) (Or.inl ⟨by rfl, ?hy71⟩) (by assumption) ?rest71
    case hy71 => intro w' hSw; (try dsimp only at hSw); go_simp; try with_reducible rfl
    try simp only [Act.put, List.setIfInBounds_toArray, List.set_cons_zero, List.set_cons_succ]
    refine wpAnyH_take (i := 6) (v := ?v72) (ops_at rfl) (by kernel_rfl) (by kernel_rfl) (by kernel_rfl) (fun _ _ _ h => h) (Or.inl ⟨by rfl, ?hy72⟩) (by assumption) ?rest72
    case hy72 => intro w' hSw; (try dsimp only at hSw); go_simp; try with_reducible rfl
    try simp only [Act.put, List.setIfInBounds_toArray, List.set_cons_zero, List.set_cons_succ]
    refine wpAnyH_ready (rs := [7]) (by kernel_rfl) (by simp) ?_
    refine AllReadyH.cons (ops_at rfl) (fun K hK => ?_) AllReadyH.nil
    go_simp
    refine (wMeant s _).mono ?_
    rintro e w6 ⟨rfl, hb6⟩
    have S6 := S5.drew.grow hb6
    clear hb6
    refine hK.out _ _ (by exact ⟨S6.cell 5 rfl 0 rfl, S6.cell 5 rfl 3 rfl, S6.sC 1 rfl⟩) (fun hHeld => ?_)
    clear hK K
    try simp only [Act.put, List.setIfInBounds_toArray, List.set_cons_zero, List.set_cons_succ]
    refine wpAnyH_take (i := 8) (v := ?v74) (ops_at rfl) (by kernel_rfl) (by kernel_rfl) (by kernel_rfl) (fun _ _ _ h => h) (Or.inl ⟨by rfl, ?hy74⟩) (by assumption) ?rest74
    case hy74 => intro w' hSw; (try dsimp only at hSw); go_simp; try with_reducible rfl
    try simp only [Act.put, List.setIfInBounds_toArray, List.set_cons_zero, List.set_cons_succ]
    refine wpAnyH_take (i := 9) (v := ?v75) (ops_at rfl) (by kernel_rfl) (by kernel_rfl) (by kernel_rfl) (fun _ _ _ h => h) (Or.inl ⟨by rfl, ?hy75⟩) (by assumption) ?rest75
    case hy75 => intro w' hSw; (try dsimp only at hSw); go_simp; try with_reducible rfl
    try simp only [Act.put, List.setIfInBounds_toArray, List.set_cons_zero, List.set_cons_succ]
    refine wpAnyH_ready (rs := [10]) (by kernel_rfl) (by simp) ?_
    refine AllReadyH.cons (ops_at rfl) (fun K hK => ?_) AllReadyH.nil
    go_simp
    refine (dOne b _).mono ?_
    rintro e w7 ⟨rfl, rfl⟩
    refine hK.out _ _ (by exact ⟨S6.cell 5 rfl 0 rfl, S6.cell 5 rfl 3 rfl, S6.sC 1 rfl⟩) (fun hHeld => ?_)
    clear hK K
    try simp only [Act.put, List.setIfInBounds_toArray, List.set_cons_zero, List.set_cons_succ]
    refine wpAnyH_take (i := 11) (v := ?v77) (ops_at rfl) (by kernel_rfl) (by kernel_rfl) (by kernel_rfl) (fun _ _ _ h => h) (Or.inl ⟨by rfl, ?hy77⟩) (by assumption) ?rest77
    case hy77 => intro w' hSw; (try dsimp only at hSw); go_simp; try with_reducible rfl
    try simp only [Act.put, List.setIfInBounds_toArray, List.set_cons_zero, List.set_cons_succ]
    refine wpAnyH_take (i := 12) (v := ?v78) (ops_at rfl) (by kernel_rfl) (by kernel_rfl) (by kernel_rfl) (fun _ _ _ h => h) (Or.inl ⟨by rfl, ?hy78⟩) (by assumption) ?rest78
    case hy78 => intro w' hSw; (try dsimp only at hSw); go_simp; try with_reducible rfl
    try simp only [Act.put, List.setIfInBounds_toArray, List.set_cons_zero, List.set_cons_succ]
    refine wpAnyH_done (by kernel_rfl) ?_ _
    clear hb
    go_wp2
    go_roundw
    case rel => exact ⟨k + 1, by omega, by rw [E6.out], by go_num, by rw [HD.out]; exact S6.take 5⟩
    case measure => simp [intOf]; omega
end Go.Proofs.YtjfbmgndekfglaaDoor
