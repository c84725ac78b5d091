/- Wish: a node's order. -/
import Derived.Test.YtilobmefomoemaaDoorWish
namespace Go.Proofs.YtilobmefomoemaaDoor
set_option linter.unusedVariables false
set_option linter.unusedSimpArgs false
open Go.RowKit
/-- What an order asks of a state. -/
structure OrdOk (s : STA) : Prop where
  job : ∀ k (h : k < s.N.length), 0 ≤ s.N[k].job ∧ s.N[k].job ≤ s.jn
  mv : ∀ k (h : k < s.N.length), s.N[k].moving = true → s.N[k].job = 0
  put : ∀ k (h : k < s.J.length), s.J[k].phase = 3 → 0 < s.J[k].nodes ∧ s.J[k].nodes < 64
def wKind (n : ND) : Int := if n.moving = true then 5 else 1
def wVer (s : STA) (n : ND) : Int := if n.moving = true then s.meant else 0
def wOrderJ (s : STA) (node : Int) (n : ND) (o : Option SS) (j : JB) : Msg :=
  if j.phase = 2 then ⟨node, 3, 0, 0, n.job, j.inc, 0, j.epoch, 0, 0, wHad s n.job o⟩
  else if j.phase = 3 then ⟨node, 4, 0, 0, n.job, j.inc, 0, 0, 0, j.writes node, 0⟩
  else if j.phase = 1 then ⟨node, 2, 0, 0, n.job, j.inc, n.version, 0, 0, 0, 0⟩
  else ⟨node, 2, 0, 0, n.job, j.inc, 0, 0, 0, 0, 0⟩
def wOrderN (s : STA) (node : Int) (n : ND) (o : Option SS) : Msg :=
  if n.job = 0 then ⟨node, wKind n, 0, 0, 0, 0, wVer s n, 0, 0, 0, 0⟩ else
  match s.J[(n.job - 1).toNat]? with
  | none => Msg.zero
  | some j => wOrderJ s node n o j
def wOrder (s : STA) (node : Int) (o : Option SS) : Option Msg :=
  if node < 0 ∨ (s.nn : Int) ≤ node then none else
  match s.N[node.toNat]? with
  | none => none
  | some n => if n.up = true then some (wOrderN s node n o) else none
def orderV : Option Msg → Value
  | none => .tuple #[.agg Msg.zero.cs.toArray, .bool false]
  | some m => .tuple #[.agg m.cs.toArray, .bool true]
theorem res_msgB {fn : Func} {p u : Tmp} (h : fn.results = #[.cell p 23, .tmp u]) (tmps : Array Value) (w : World) (g : Nat) (cs : Array Value) (b : Value) (hp : tmps.getD p undef = .pointer (some ⟨g, 0, none⟩)) (hg : w.heap[g]? = some (.cells cs 23 (0, 0))) (hs : cs.size = 11) (hb : tmps.getD u undef = b) :
    (results fn tmps).run Tryd.prog w = .ok (.tuple #[.agg cs, b]) w := by
  have hi : (Tryd.prog.info? 23).map (·.size) = some 11 := by kernel_rfl
  have l1 := run_loadVar_row (P := Tryd.prog) w g 23 23 cs (0, 0) _ hg Tryd.underlying23 rfl (by rw [hi, hs])
  rw [results_cell_tmp h, hp, hb]
  simp [asAddr, l1, Result.andThen]
theorem St.neq {w0 w : World} {l : List Thing} (S : St w0 w l) (i j : Nat) (hij : i ≠ j) {g h : Nat} {T U : TypeId} {cs ds : List Value} (hi : l[i]? = some (cellsT g T cs)) (hj : l[j]? = some (cellsT h U ds)) : ¬ g = h := by
  obtain ⟨_, F, h2, h3⟩ := S
  have x := h2 i _ hi
  have y := h2 j _ hj
  intro e
  subst e
  exact h3 i j g (List.getElem?_eq_some_iff.1 hi).1 (List.getElem?_eq_some_iff.1 hj).1 hij ((x.2.2 g).2 rfl) ((y.2.2 g).2 rfl)
section
variable {w0 w : World} {r : List Thing} {k : Nat} {sv : Value} {o : Option SS}
set_option maxRecDepth 10000 in
set_option maxHeartbeats 3200000 in
theorem wOrder_none (s : STA) (hs : s.At w) (node : Int) (hN : wOrder s node o = none) :
    Calls Tryd.prog 13 #[.agg #[.slice s.na s.nn s.nc, .slice s.ja s.jn s.jc, .int .i64 s.goal, .int .i64 s.prior, .int .i64 s.mode, .int .i64 s.term], .int .i64 node, sv] w fun e w' => e = .returned (orderV (wOrder s node o)) ∧ Below w.heap.size w w' := by
  have hb := (((St.start w).alloc (.cells #[.slice s.na s.nn s.nc, .slice s.ja s.jn s.jc, .int .i64 s.goal, .int .i64 s.prior, .int .i64 s.mode, .int .i64 s.term] 33)).alloc (.cells #[.int .i64 0, .int .i64 0, .int .i64 0, .int .i64 0, .int .i64 0, .int .i64 0, .int .i64 0, .int .i64 0, .int .i64 0, .int .i64 0, .int .i64 0] 23)).fin
  have E := hid hN
  by_cases h1 : node < 0
  · have g1 : decide (node < 0) = true := decide_eq_true h1
    clear h1 hN
    go_enter Tryd.func13, Tryd.ntmps13
    go_wp2
    exact bodyPost_ret (res_msgB rfl _ _ (w.heap.size + 1) _ _ rfl (heap2w _ _ _ _) rfl rfl) rfl ⟨by rw [E.out]; rfl, hb⟩
  by_cases h2 : (s.nn : Int) ≤ node
  · have g1 : decide (node < 0) = false := decide_eq_false h1
    have g2 : decide ((s.nn : Int) ≤ node) = true := decide_eq_true h2
    clear h1 h2 hN
    go_enter Tryd.func13, Tryd.ntmps13
    go_wp2
    exact bodyPost_ret (res_msgB rfl _ _ (w.heap.size + 1) _ _ rfl (heap2w _ _ _ _) rfl rfl) rfl ⟨by rw [E.out]; rfl, hb⟩
  obtain ⟨K, rfl⟩ : ∃ K : Nat, node = K := ⟨node.toNat, by omega⟩
  have hK : K < s.nn := by omega
  have hl : K < s.N.length := by rw [hs.nn]; exact hK
  have i0 := fun wx => idxND s.na s.nn s.nc (fun h => hs.n.ok (by rw [hs.nn]; exact h)) K hK wx
  have HX : Hid (∀ w', Below w.heap.size w w' → NdAt w' (adr s.na (K * 5)) s.N[K]) := fun w' hb => (hs.n.all eNDok hb).ndAt hl
  have hu : s.N[K].up = false := by
    rw [wOrder, if_neg (by omega), Int.toNat_natCast, List.getElem?_eq_getElem hl] at hN
    cases h : s.N[K].up
    · rfl
    · simp [h] at hN
  generalize s.N[K] = x at *
  generalize adr s.na (K * 5) = A at *
  obtain ⟨x0, x1, x2, x3, x4⟩ := HX.out _ hb
  rw [hu] at x0
  have g1 : decide ((K : Int) < 0) = false := decide_eq_false h1
  have g2 : decide ((s.nn : Int) ≤ (K : Int)) = false := decide_eq_false h2
  have g3 : decide (s.nn ≤ K) = false := decide_eq_false (by omega)
  clear h1 h2 hN hu hK hl
  go_enter Tryd.func13, Tryd.ntmps13
  go_wp2
  exact bodyPost_ret (res_msgB rfl _ _ (w.heap.size + 1) _ _ rfl (heap2w _ _ _ _) rfl rfl) rfl ⟨by rw [E.out]; rfl, hb⟩
theorem heap42 (w : World) (o1 o3 o4 : Obj) (cs : Array Value) (T : TypeId) : ((((w.alloc o1).alloc (.cells cs T)).alloc o3).alloc o4).heap[w.heap.size + 1]? = some (.cells cs T (0, 0)) := by
  have h := heap2w w o1 cs T
  rw [heap_alloc_old _ _ (by rw [alloc_size, alloc_size, alloc_size]; omega), heap_alloc_old _ _ (by rw [alloc_size, alloc_size]; omega)]
  exact h
set_option maxRecDepth 10000 in
set_option maxHeartbeats 3200000 in
theorem wOrder_free (s : STA) (hs : s.At w) (K : Nat) (hK : K < s.nn) (x : ND) (hx : s.N[K]? = some x) (hu : x.up = true) (hj : x.job = 0) :
    Calls Tryd.prog 13 #[.agg #[.slice s.na s.nn s.nc, .slice s.ja s.jn s.jc, .int .i64 s.goal, .int .i64 s.prior, .int .i64 s.mode, .int .i64 s.term], .int .i64 (K : Int), sv] w fun e w' => e = .returned (orderV (some ⟨K, wKind x, 0, 0, 0, 0, wVer s x, 0, 0, 0, 0⟩)) ∧ Below w.heap.size w w' := by
  have hl : K < s.N.length := by rw [hs.nn]; exact hK
  have i0 := fun wx => idxND s.na s.nn s.nc (fun h => hs.n.ok (by rw [hs.nn]; exact h)) K hK wx
  have hx' : s.N[K] = x := by rw [List.getElem?_eq_getElem hl] at hx; exact Option.some.inj hx
  have HX : Hid (∀ w', Below w.heap.size w w' → NdAt w' (adr s.na (K * 5)) x) := fun w' hb => by
    have := (hs.n.all eNDok hb).ndAt hl
    rw [hx'] at this; exact this
  generalize adr s.na (K * 5) = A at *
  have g1 : decide ((K : Int) < 0) = false := decide_eq_false (by omega)
  have g2 : decide ((s.nn : Int) ≤ (K : Int)) = false := decide_eq_false (by omega)
  have g3 : decide (s.nn ≤ K) = false := decide_eq_false (by omega)
  have g4 : (x.job == 0) = true := by rw [hj]; rfl
  have S1 := ((St.start w).alloc (.cells #[.slice s.na s.nn s.nc, .slice s.ja s.jn s.jc, .int .i64 s.goal, .int .i64 s.prior, .int .i64 s.mode, .int .i64 s.term] 33)).alloc (.cells #[.int .i64 0, .int .i64 0, .int .i64 0, .int .i64 0, .int .i64 0, .int .i64 0, .int .i64 0, .int .i64 0, .int .i64 0, .int .i64 0, .int .i64 0] 23)
  obtain ⟨x0, x1, x2, x3, x4⟩ := HX.out _ S1.fin
  rw [hu] at x0
  rw [hj] at x4
  clear hx hx' hl hK hs hj
  by_cases hm : x.moving = true
  · have E1 : Hid (wKind x = 5) := if_pos hm
    have E2 : Hid (wVer s x = s.meant) := if_pos hm
    rw [hm] at x2
    clear hm
    go_enter Tryd.func13, Tryd.ntmps13
    go_wp2_with fail
    have S4 : St w _ [cellsT (w.heap.size + 1) 23 Msg.zero.cs, cellsT (w.heap.size + 1 + 1) 38 [.bool true, .bool x.cordon, .bool true, .int .i64 x.version, .int .i64 0], cellsT (w.heap.size + 1 + 1 + 1) 23 (⟨K, 1, 0, 0, 0, 0, 0, 0, 0, 0, 0⟩ : Msg).cs] := ((((St.start w).alloc (.cells #[.slice s.na s.nn s.nc, .slice s.ja s.jn s.jc, .int .i64 s.goal, .int .i64 s.prior, .int .i64 s.mode, .int .i64 s.term] 33)).newAt 23 #[.int .i64 0, .int .i64 0, .int .i64 0, .int .i64 0, .int .i64 0, .int .i64 0, .int .i64 0, .int .i64 0, .int .i64 0, .int .i64 0, .int .i64 0] (w.heap.size + 1) (alloc_size _ _)).newAt 38 #[.bool true, .bool x.cordon, .bool true, .int .i64 x.version, .int .i64 0] (w.heap.size + 1 + 1) (by simp only [alloc_size])).newAt 23 #[.int .i64 K, .int .i64 1, .int .i64 0, .int .i64 0, .int .i64 0, .int .i64 0, .int .i64 0, .int .i64 0, .int .i64 0, .int .i64 0, .int .i64 0] (w.heap.size + 1 + 1 + 1) (by simp only [alloc_size])
    generalize w.heap.size + 1 + 1 + 1 = g9 at *
    generalize w.heap.size + 1 + 1 = g8 at *
    generalize w.heap.size + 1 = g6 at *
    generalize (((w.alloc _).alloc _).alloc _).alloc _ = w4 at *
    refine (wMeant s _).mono ?_
    rintro e w5 ⟨rfl, hb5⟩
    have S5 := S4.grow hb5
    clear S4 hb5 S1 x0 x1 x2 x3 x4 i0 HX
    generalize s.meant = v at *
    have SZ := (S5.setCell 2 rfl 1 (.int .i64 5)).setCell 2 rfl 6 (.int .i64 v)
    obtain ⟨f0, f1, f2, f3, f4, f5, f6, f7, f8, f9, f10⟩ := S5.msgFrozen 0 rfl
    obtain ⟨z0, z1, z2, z3, z4, z5, z6, z7, z8, z9, z10⟩ := S5.msg 0 rfl
    obtain ⟨e0, e1, e2, e3, e4, e5, e6, e7, e8, e9, e10⟩ := S5.msgFrozen 2 rfl
    obtain ⟨y0, y1, y2, y3, y4, y5, y6, y7, y8, y9, y10⟩ := S5.msg 2 rfl
    have nj := S5.cell 1 rfl 4 rfl
    have n1 := S5.neq 0 2 (by decide) rfl rfl
    have n2 := S5.neq 2 0 (by decide) rfl rfl
    have n3 := S5.neq 1 2 (by decide) rfl rfl
    have n4 := S5.neq 2 1 (by decide) rfl rfl
    have SX := SZ.setMsg (m' := ⟨K, 5, 0, 0, 0, 0, v, 0, 0, 0, 0⟩)
    go_wp2
    exact bodyPost_ret (res_msgB rfl _ _ g6 _ _ rfl (by exact SX.heap 0 rfl) rfl rfl) rfl ⟨by rw [E1.out, E2.out]; rfl, SX.fin⟩
  · have E1 : Hid (wKind x = 1) := if_neg hm
    have E2 : Hid (wVer s x = 0) := if_neg hm
    have hm' : x.moving = false := by simpa using hm
    rw [hm'] at x2
    clear hm hm'
    go_enter Tryd.func13, Tryd.ntmps13
    go_wp2
    refine bodyPost_ret (res_msgB rfl _ _ (w.heap.size + 1) _ _ rfl (by exact heap42 _ _ _ _ _ _) rfl rfl) rfl ⟨by rw [E1.out, E2.out]; rfl, ?_⟩
    exact ((((((St.start w).alloc _).alloc _).alloc _).alloc _)).fin
set_option maxRecDepth 10000 in
set_option maxHeartbeats 6400000 in
theorem wOrder_job (S : St w0 w r) (hk : r[k]? = some (soT sv o)) (s : STA) (hs : s.At w) (hT : TabOk w) (K : Nat) (hK : K < s.nn) (x : ND) (hx : s.N[K]? = some x) (hu : x.up = true) (hm : x.moving = false) (J : Nat) (hxj : x.job = (J : Int) + 1) (hJ : J < s.jn) (j : JB) (hj : s.J[J]? = some j)
    (hp : j.phase = 3 → 0 < j.nodes ∧ j.nodes < 64) :
    Calls Tryd.prog 13 #[.agg #[.slice s.na s.nn s.nc, .slice s.ja s.jn s.jc, .int .i64 s.goal, .int .i64 s.prior, .int .i64 s.mode, .int .i64 s.term], .int .i64 (K : Int), sv] w fun e w' => e = .returned (orderV (some (wOrderJ s K x o j))) ∧ Below w.heap.size w w' := by
  have hl : K < s.N.length := by rw [hs.nn]; exact hK
  have hlJ : J < s.J.length := by rw [hs.jn]; exact hJ
  have hjm := hs.jm
  unfold maxLen at hjm
  have i0 := fun wx => idxND s.na s.nn s.nc (fun h => hs.n.ok (by rw [hs.nn]; exact h)) K hK wx
  have i1 := fun wx => idxJB s.ja s.jn s.jc (fun h => hs.j.ok (by rw [hs.jn]; exact h)) J J rfl hJ wx
  have hx' : s.N[K] = x := by rw [List.getElem?_eq_getElem hl] at hx; exact Option.some.inj hx
  have hj' : s.J[J] = j := by rw [List.getElem?_eq_getElem hlJ] at hj; exact Option.some.inj hj
  have HX : Hid (∀ w', Below w.heap.size w w' → NdAt w' (adr s.na (K * 5)) x) := fun w' hb => by
    have := (hs.n.all eNDok hb).ndAt hl
    rw [hx'] at this; exact this
  have HJ : Hid (∀ w', Below w.heap.size w w' → JbAt w' (adr s.ja (J * 12)) j) := fun w' hb => by
    have := (hs.j.all eJBok hb).jbAt hlJ
    rw [hj'] at this; exact this
  generalize adr s.na (K * 5) = A at *
  generalize adr s.ja (J * 12) = B at *
  have HK := hid hk
  have HS := hid hs
  have HP := hid hp
  have HT := hid hT
  have g1 : decide ((K : Int) < 0) = false := decide_eq_false (by omega)
  have g2 : decide ((s.nn : Int) ≤ (K : Int)) = false := decide_eq_false (by omega)
  have g3 : decide (s.nn ≤ K) = false := decide_eq_false (by omega)
  have g4 : ((J : Int) + 1 == 0) = false := by simp; omega
  have S1 := ((St.start w).alloc (.cells #[.slice s.na s.nn s.nc, .slice s.ja s.jn s.jc, .int .i64 s.goal, .int .i64 s.prior, .int .i64 s.mode, .int .i64 s.term] 33)).alloc (.cells #[.int .i64 0, .int .i64 0, .int .i64 0, .int .i64 0, .int .i64 0, .int .i64 0, .int .i64 0, .int .i64 0, .int .i64 0, .int .i64 0, .int .i64 0] 23)
  have S3 := (S1.alloc (.cells #[.bool true, .bool x.cordon, .bool false, .int .i64 x.version, .int .i64 ((J : Int) + 1)] 38)).alloc (.cells #[.int .i64 K, .int .i64 1, .int .i64 0, .int .i64 0, .int .i64 0, .int .i64 0, .int .i64 0, .int .i64 0, .int .i64 0, .int .i64 0, .int .i64 0] 23)
  obtain ⟨x0, x1, x2, x3, x4⟩ := HX.out _ S1.fin
  have HU : Hid (∀ w' B, JbAt w' B j → JbAt w' B j) := fun _ _ h => h
  obtain ⟨j0, j1, j2, j3, j4, j5, j6, j7, j8, j9, j10, j11⟩ := HJ.out _ S3.fin
  rw [hu] at x0
  rw [hm] at x2
  rw [hxj] at x4
  have HE : Hid (wOrderJ s K x o j = wOrderJ s K ⟨true, x.cordon, false, x.version, (J : Int) + 1⟩ o j) := by
    rw [Hid, ← hu, ← hm, ← hxj]
  clear hx hx' hj hj' hl hlJ hK hs hk hp hT hu hm hxj HU
  go_enter Tryd.func13, Tryd.ntmps13
  go_wp2_with fail
  have S5 : St w _ [cellsT w.heap.size 33 s.cs, cellsT (w.heap.size + 1) 23 Msg.zero.cs, cellsT (w.heap.size + 1 + 1) 38 (#[.bool true, .bool x.cordon, .bool false, .int .i64 x.version, .int .i64 ((J : Int) + 1)] : Array Value).toList, cellsT (w.heap.size + 1 + 1 + 1) 23 (⟨K, 1, 0, 0, 0, 0, 0, 0, 0, 0, 0⟩ : Msg).cs, cellsT (w.heap.size + 1 + 1 + 1 + 1) 40 j.cs] := (((((St.start w).newAt 33 #[.slice s.na s.nn s.nc, .slice s.ja s.jn s.jc, .int .i64 s.goal, .int .i64 s.prior, .int .i64 s.mode, .int .i64 s.term] w.heap.size rfl).newAt 23 #[.int .i64 0, .int .i64 0, .int .i64 0, .int .i64 0, .int .i64 0, .int .i64 0, .int .i64 0, .int .i64 0, .int .i64 0, .int .i64 0, .int .i64 0] (w.heap.size + 1) (alloc_size _ _)).newAt 38 #[.bool true, .bool x.cordon, .bool false, .int .i64 x.version, .int .i64 ((J : Int) + 1)] (w.heap.size + 1 + 1) (by simp only [alloc_size])).newAt 23 #[.int .i64 K, .int .i64 1, .int .i64 0, .int .i64 0, .int .i64 0, .int .i64 0, .int .i64 0, .int .i64 0, .int .i64 0, .int .i64 0, .int .i64 0] (w.heap.size + 1 + 1 + 1) (by simp only [alloc_size])).newAt 40 #[.int .i64 j.queue, .int .i64 j.prio, .int .i64 j.lo, .int .i64 j.hi, .int .i64 j.work, .int .i64 j.pin, .int .i64 j.phase, .int .i64 j.inc, .int .i64 j.nodes, .int .i64 j.since, .int .i64 j.until_, .int .i64 j.epoch] (w.heap.size + 1 + 1 + 1 + 1) (by simp only [alloc_size])
  generalize w.heap.size + 1 + 1 + 1 + 1 = g10 at *
  generalize w.heap.size + 1 + 1 + 1 = g9 at *
  generalize w.heap.size + 1 + 1 = g8 at *
  generalize w.heap.size + 1 = g6 at *
  generalize w.heap.size = g3 at *
  generalize ((((w.alloc _).alloc _).alloc _).alloc _).alloc _ = w5 at *
  have nj := S5.cell 2 rfl 4 rfl
  have jinc := S5.cell 4 rfl 7 rfl
  obtain ⟨e0, e1, e2, e3, e4, e5, e6, e7, e8, e9, e10⟩ := S5.msgFrozen 3 rfl
  obtain ⟨y0, y1, y2, y3, y4, y5, y6, y7, y8, y9, y10⟩ := S5.msg 3 rfl
  refine wp_region_held_drew (S := (fun w' => w'.cell? ⟨g8, 4, none⟩ = some (.int .i64 ((J : Int) + 1)) ∧ w'.cell? ⟨g10, 7, none⟩ = some (.int .i64 j.inc))) (by kernel_rfl) (by exact ⟨S5.drew.cell 2 rfl 4 rfl, S5.drew.cell 4 rfl 7 rfl⟩) (fun hHeld => ?_)
  change wpAnyH _ _ _ _ _ 8 (Array.replicate 8 false) _ _
  have S6 := S5.setCell 3 rfl 4 (.int .i64 ((J : Int) + 1))
  refine wpAnyH_take (i := 0) (v := ?v1) (ops_at rfl) (by kernel_rfl) (by kernel_rfl) (by kernel_rfl) (fun _ _ _ h => h) (Or.inl ⟨by rfl, ?hy1⟩) (by assumption) ?rest1
  case hy1 => intro w' hSw; (try dsimp only at hSw); go_simp; try with_reducible rfl
  try simp only [Act.put, List.setIfInBounds_toArray, List.set_cons_zero, List.set_cons_succ]
  refine wpAnyH_take (i := 1) (v := ?v2) (ops_at rfl) (by kernel_rfl) (by kernel_rfl) (by kernel_rfl) (fun _ _ _ h => h) (Or.inl ⟨by rfl, ?hy2⟩) (by assumption) ?rest2
  case hy2 => intro w' hSw; (try dsimp only at hSw); go_simp; try with_reducible rfl
  try simp only [Act.put, List.setIfInBounds_toArray, List.set_cons_zero, List.set_cons_succ]
  refine wpAnyH_take (i := 2) (v := ?v3) (ops_at rfl) (by kernel_rfl) (by kernel_rfl) (by kernel_rfl) (fun _ _ _ h => h) (Or.inl ⟨by rfl, ?hy3⟩) (by assumption) ?rest3
  case hy3 => intro w' hSw; (try dsimp only at hSw); go_simp; try with_reducible rfl
  try simp only [Act.put, List.setIfInBounds_toArray, List.set_cons_zero, List.set_cons_succ]
  refine wpAnyH_take (i := 3) (v := ?v4) (ops_at rfl) (by kernel_rfl) (by kernel_rfl) (by kernel_rfl) (fun _ _ _ h => h) (Or.inl ⟨by rfl, ?hy4⟩) (by assumption) ?rest4
  case hy4 => intro w' hSw; (try dsimp only at hSw); go_simp; try with_reducible rfl
  try simp only [Act.put, List.setIfInBounds_toArray, List.set_cons_zero, List.set_cons_succ]
  refine wpAnyH_take (i := 4) (v := ?v5) (ops_at rfl) (by kernel_rfl) (by kernel_rfl) (by kernel_rfl) (fun _ _ _ h => h) (Or.inl ⟨by rfl, ?hy5⟩) (by assumption) ?rest5
  case hy5 => intro w' hSw; (try dsimp only at hSw); go_simp; try with_reducible rfl
  try simp only [Act.put, List.setIfInBounds_toArray, List.set_cons_zero, List.set_cons_succ]
  refine wpAnyH_ready (rs := [5]) (by kernel_rfl) (by simp) ?_
  refine AllReadyH.cons (ops_at rfl) (fun K hK => ?_) AllReadyH.nil
  go_simp
  refine hK.out _ _ (by exact ⟨S6.drew.cell 2 rfl 4 rfl, S6.drew.cell 4 rfl 7 rfl⟩) (fun hHeld => ?_)
  clear hK K
  try simp only [Act.put, List.setIfInBounds_toArray, List.set_cons_zero, List.set_cons_succ]
  have S7 : St w _ [cellsT g3 33 s.cs, cellsT g6 23 Msg.zero.cs, cellsT g8 38 (#[.bool true, .bool x.cordon, .bool false, .int .i64 x.version, .int .i64 ((J : Int) + 1)] : Array Value).toList, cellsT g9 23 (⟨K, 1, 0, 0, (J : Int) + 1, j.inc, 0, 0, 0, 0, 0⟩ : Msg).cs, cellsT g10 40 j.cs] := (S6.setCell 3 rfl 5 (.int .i64 j.inc)).drew
  refine wpAnyH_take (i := 6) (v := ?v6) (ops_at rfl) (by kernel_rfl) (by kernel_rfl) (by kernel_rfl) (fun _ _ _ h => h) (Or.inl ⟨by rfl, ?hy6⟩) (by assumption) ?rest6
  case hy6 => intro w' hSw; (try dsimp only at hSw); go_simp; try with_reducible rfl
  try simp only [Act.put, List.setIfInBounds_toArray, List.set_cons_zero, List.set_cons_succ]
  refine wpAnyH_ready (rs := [7]) (by kernel_rfl) (by simp) ?_
  refine AllReadyH.cons (ops_at rfl) (fun K hK => ?_) AllReadyH.nil
  go_simp
  refine hK.out _ _ (by exact ⟨S7.cell 2 rfl 4 rfl, S7.cell 4 rfl 7 rfl⟩) (fun hHeld => ?_)
  clear hK K
  try simp only [Act.put, List.setIfInBounds_toArray, List.set_cons_zero, List.set_cons_succ]
  refine wpAnyH_done (by kernel_rfl) ?_ _
  clear S1 S3 x0 x1 x2 x3 x4 j0 j1 j2 j3 j4 j5 j6 j7 j8 j9 j10 j11 nj jinc e0 e1 e2 e3 e4 e5 e6 e7 e8 e9 e10 y0 y1 y2 y3 y4 y5 y6 y7 y8 y9 y10 S5 S6 i0 i1 hHeld
  generalize ((w5.setCell ⟨g9, 4, none⟩ (.int .i64 ((J : Int) + 1))).setCell ⟨g9, 5, none⟩ (.int .i64 j.inc)).drew = w7 at *
  obtain ⟨e0, e1, e2, e3, e4, e5, e6, e7, e8, e9, e10⟩ := S7.msgFrozen 3 rfl
  have jph := S7.cell 4 rfl 6 rfl
  have nv := S7.cell 2 rfl 3 rfl
  have n1 := S7.neq 1 3 (by decide) rfl rfl
  have n2 := S7.neq 3 1 (by decide) rfl rfl
  by_cases c2 : j.phase = 2
  · have d2 : (j.phase == 2) = true := by simpa using c2
    have E : Hid (wOrderJ s K x o j = ⟨K, 3, 0, 0, (J : Int) + 1, j.inc, 0, j.epoch, 0, 0, wHad s ((J : Int) + 1) o⟩) := by rw [Hid, HE.out]; exact if_pos c2
    clear c2 HE
    have keep7 : ∀ {w' : World} {cs : List Value}, St w w' [cellsT g3 33 s.cs, cellsT g6 23 Msg.zero.cs, cellsT g8 38 (#[.bool true, .bool x.cordon, .bool false, .int .i64 x.version, .int .i64 ((J : Int) + 1)] : Array Value).toList, cellsT g9 23 cs, cellsT g10 40 j.cs] → (w'.cell? ⟨g3, 0, none⟩ = some (.slice s.na s.nn s.nc) ∧ w'.cell? ⟨g3, 1, none⟩ = some (.slice s.ja s.jn s.jc) ∧ w'.cell? ⟨g3, 2, none⟩ = some (.int .i64 s.goal) ∧ w'.cell? ⟨g3, 3, none⟩ = some (.int .i64 s.prior) ∧ w'.cell? ⟨g3, 4, none⟩ = some (.int .i64 s.mode) ∧ w'.cell? ⟨g3, 5, none⟩ = some (.int .i64 s.term) ∧ w'.cell? ⟨g8, 4, none⟩ = some (.int .i64 ((J : Int) + 1)) ∧ w'.cell? ⟨g10, 11, none⟩ = some (.int .i64 j.epoch)) := fun S => ⟨S.cell 0 rfl 0 rfl, S.cell 0 rfl 1 rfl, S.cell 0 rfl 2 rfl, S.cell 0 rfl 3 rfl, S.cell 0 rfl 4 rfl, S.cell 0 rfl 5 rfl, S.cell 2 rfl 4 rfl, S.cell 4 rfl 11 rfl⟩
    obtain ⟨k0, k1, k2, k3, k4, k5, k6, k7⟩ := keep7 S7
    go_wp2_with fail
    refine wp_region_held_drew (S := (fun w' => (w'.cell? ⟨g3, 0, none⟩ = some (.slice s.na s.nn s.nc) ∧ w'.cell? ⟨g3, 1, none⟩ = some (.slice s.ja s.jn s.jc) ∧ w'.cell? ⟨g3, 2, none⟩ = some (.int .i64 s.goal) ∧ w'.cell? ⟨g3, 3, none⟩ = some (.int .i64 s.prior) ∧ w'.cell? ⟨g3, 4, none⟩ = some (.int .i64 s.mode) ∧ w'.cell? ⟨g3, 5, none⟩ = some (.int .i64 s.term) ∧ w'.cell? ⟨g8, 4, none⟩ = some (.int .i64 ((J : Int) + 1)) ∧ w'.cell? ⟨g10, 11, none⟩ = some (.int .i64 j.epoch)))) (by kernel_rfl) (by exact keep7 S7.drew) (fun hHeld => ?_)
    change wpAnyH _ _ _ _ _ 11 (Array.replicate 11 false) _ _
    refine wpAnyH_take (i := 0) (v := ?v7) (ops_at rfl) (by kernel_rfl) (by kernel_rfl) (by kernel_rfl) (fun _ _ _ h => h) (Or.inl ⟨by rfl, ?hy7⟩) (by assumption) ?rest7
    case hy7 => intro w' hSw; (try dsimp only at hSw); go_simp; try with_reducible rfl
    try simp only [Act.put, List.setIfInBounds_toArray, List.set_cons_zero, List.set_cons_succ]
    refine wpAnyH_take (i := 1) (v := ?v8) (ops_at rfl) (by kernel_rfl) (by kernel_rfl) (by kernel_rfl) (fun _ _ _ h => h) (Or.inl ⟨by rfl, ?hy8⟩) (by assumption) ?rest8
    case hy8 => intro w' hSw; (try dsimp only at hSw); go_simp; try with_reducible rfl
    try simp only [Act.put, List.setIfInBounds_toArray, List.set_cons_zero, List.set_cons_succ]
    refine wpAnyH_take (i := 2) (v := ?v9) (ops_at rfl) (by kernel_rfl) (by kernel_rfl) (by kernel_rfl) (fun _ _ _ h => h) (Or.inl ⟨by rfl, ?hy9⟩) (by assumption) ?rest9
    case hy9 => intro w' hSw; (try dsimp only at hSw); go_simp; try with_reducible rfl
    try simp only [Act.put, List.setIfInBounds_toArray, List.set_cons_zero, List.set_cons_succ]
    refine wpAnyH_take (i := 3) (v := ?v10) (ops_at rfl) (by kernel_rfl) (by kernel_rfl) (by kernel_rfl) (fun _ _ _ h => h) (Or.inl ⟨by rfl, ?hy10⟩) (by assumption) ?rest10
    case hy10 => intro w' hSw; (try dsimp only at hSw); go_simp; try with_reducible rfl
    try simp only [Act.put, List.setIfInBounds_toArray, List.set_cons_zero, List.set_cons_succ]
    refine wpAnyH_take (i := 4) (v := ?v11) (ops_at rfl) (by kernel_rfl) (by kernel_rfl) (by kernel_rfl) (fun _ _ _ h => h) (Or.inl ⟨by rfl, ?hy11⟩) (by assumption) ?rest11
    case hy11 => intro w' hSw; (try dsimp only at hSw); go_simp; try with_reducible rfl
    try simp only [Act.put, List.setIfInBounds_toArray, List.set_cons_zero, List.set_cons_succ]
    refine wpAnyH_take (i := 5) (v := ?v12) (ops_at rfl) (by kernel_rfl) (by kernel_rfl) (by kernel_rfl) (fun _ _ _ h => h) (Or.inl ⟨by rfl, ?hy12⟩) (by assumption) ?rest12
    case hy12 => intro w' hSw; (try dsimp only at hSw); go_simp; try with_reducible rfl
    try simp only [Act.put, List.setIfInBounds_toArray, List.set_cons_zero, List.set_cons_succ]
    refine wpAnyH_take (i := 7) (v := ?v13) (ops_at rfl) (by kernel_rfl) (by kernel_rfl) (by kernel_rfl) (fun _ _ _ h => h) (Or.inl ⟨by rfl, ?hy13⟩) (by assumption) ?rest13
    case hy13 => intro w' hSw; (try dsimp only at hSw); go_simp; try with_reducible rfl
    try simp only [Act.put, List.setIfInBounds_toArray, List.set_cons_zero, List.set_cons_succ]
    refine wpAnyH_ready (rs := [6]) (by kernel_rfl) (by simp) ?_
    refine AllReadyH.cons (ops_at rfl) (fun K hK => ?_) AllReadyH.nil
    go_simp
    refine (wHad_any (S.grow S7.drew.fin) HK.out s (HS.out.all S7.drew.fin) ((J : Int) + 1)).mono ?_
    rintro e wb ⟨rfl, hbb⟩
    have Sb := S7.drew.grow hbb
    refine hK.out _ _ (by exact keep7 Sb) (fun hHeld => ?_)
    clear hK K
    try simp only [Act.put, List.setIfInBounds_toArray, List.set_cons_zero, List.set_cons_succ]
    have q7 := Sb.frozen 3 rfl 7
    have q10 := Sb.frozen 3 rfl 10
    have u7 := Sb.cell 3 rfl 7 rfl
    have u10 := Sb.cell 3 rfl 10 rfl
    have Sc := Sb.setCell 3 rfl 7 (.int .i64 j.epoch)
    refine wpAnyH_ready (rs := [8]) (by kernel_rfl) (by simp) ?_
    refine AllReadyH.cons (ops_at rfl) (fun K hK => ?_) AllReadyH.nil
    go_simp
    refine hK.out _ _ (by exact keep7 Sc) (fun hHeld => ?_)
    clear hK K
    try simp only [Act.put, List.setIfInBounds_toArray, List.set_cons_zero, List.set_cons_succ]
    generalize wHad s ((J : Int) + 1) o = v at *
    have S8 : St w _ [cellsT g3 33 s.cs, cellsT g6 23 Msg.zero.cs, cellsT g8 38 (#[.bool true, .bool x.cordon, .bool false, .int .i64 x.version, .int .i64 ((J : Int) + 1)] : Array Value).toList, cellsT g9 23 (⟨K, 1, 0, 0, (J : Int) + 1, j.inc, 0, j.epoch, 0, 0, v⟩ : Msg).cs, cellsT g10 40 j.cs] := Sc.setCell 3 rfl 10 (.int .i64 v)
    refine wpAnyH_take (i := 9) (v := ?v15) (ops_at rfl) (by kernel_rfl) (by kernel_rfl) (by kernel_rfl) (fun _ _ _ h => h) (Or.inl ⟨by rfl, ?hy15⟩) (by assumption) ?rest15
    case hy15 => intro w' hSw; (try dsimp only at hSw); go_simp; try with_reducible rfl
    try simp only [Act.put, List.setIfInBounds_toArray, List.set_cons_zero, List.set_cons_succ]
    refine wpAnyH_ready (rs := [10]) (by kernel_rfl) (by simp) ?_
    refine AllReadyH.cons (ops_at rfl) (fun K hK => ?_) AllReadyH.nil
    go_simp
    refine hK.out _ _ (by exact keep7 S8) (fun hHeld => ?_)
    clear hK K
    try simp only [Act.put, List.setIfInBounds_toArray, List.set_cons_zero, List.set_cons_succ]
    refine wpAnyH_done (by kernel_rfl) ?_ _
    clear q7 q10 u7 u10 k0 k1 k2 k3 k4 k5 k6 k7 keep7 hHeld S7 Sb Sc e0 e1 e2 e3 e4 e5 e6 e7 e8 e9 e10 jph nv hbb
    generalize (wb.setCell ⟨g9, 7, none⟩ (.int .i64 j.epoch)).setCell ⟨g9, 10, none⟩ (.int .i64 v) = w8 at *
    have S9 := S8.setCell 3 rfl 1 (.int .i64 3)
    obtain ⟨e0, e1, e2, e3, e4, e5, e6, e7, e8, e9, e10⟩ := S8.msgFrozen 3 rfl
    obtain ⟨y0, y1, y2, y3, y4, y5, y6, y7, y8, y9, y10⟩ := S8.msg 3 rfl
    obtain ⟨f0, f1, f2, f3, f4, f5, f6, f7, f8, f9, f10⟩ := S8.msgFrozen 1 rfl
    obtain ⟨z0, z1, z2, z3, z4, z5, z6, z7, z8, z9, z10⟩ := S8.msg 1 rfl
    have SX := (S9.front 1 rfl).setMsg (m' := ⟨K, 3, 0, 0, (J : Int) + 1, j.inc, 0, j.epoch, 0, 0, v⟩)
    go_wp2
    exact bodyPost_ret (res_msgB rfl _ _ g6 _ _ rfl (by exact SX.heap 0 rfl) rfl rfl) rfl ⟨by rw [E.out]; rfl, SX.fin⟩
  have d2 : (j.phase == 2) = false := by simpa using c2
  by_cases c3 : j.phase = 3
  · have d3 : (j.phase == 3) = true := by simpa using c3
    have E : Hid (wOrderJ s K x o j = ⟨K, 4, 0, 0, (J : Int) + 1, j.inc, 0, 0, 0, j.writes K, 0⟩) := by rw [Hid, HE.out]; unfold wOrderJ; rw [if_neg c2, if_pos c3]
    obtain ⟨hp1, hp2⟩ := HP.out c3
    clear c2 c3 HE
    obtain ⟨t0, t1, t2, t3, t4, t5, t6, t7, t8, t9, t10, t11⟩ : JbAt w7 ⟨g10, 0, none⟩ j := ⟨S7.cell 4 rfl 0 rfl, S7.cell 4 rfl 1 rfl, S7.cell 4 rfl 2 rfl, S7.cell 4 rfl 3 rfl, S7.cell 4 rfl 4 rfl, S7.cell 4 rfl 5 rfl, S7.cell 4 rfl 6 rfl, S7.cell 4 rfl 7 rfl, S7.cell 4 rfl 8 rfl, S7.cell 4 rfl 9 rfl, S7.cell 4 rfl 10 rfl, S7.cell 4 rfl 11 rfl⟩
    go_wp2_with fail
    refine (wWrites j K _ hp1 hp2 (HT.out.all S7.fin)).mono ?_
    rintro e wb ⟨rfl, hbb⟩
    have Sb := S7.grow hbb
    clear t0 t1 t2 t3 t4 t5 t6 t7 t8 t9 t10 t11 e0 e1 e2 e3 e4 e5 e6 e7 e8 e9 e10 jph nv hbb hp1 hp2 S7
    generalize j.writes K = v at *
    have S8 : St w _ [cellsT g3 33 s.cs, cellsT g6 23 Msg.zero.cs, cellsT g8 38 (#[.bool true, .bool x.cordon, .bool false, .int .i64 x.version, .int .i64 ((J : Int) + 1)] : Array Value).toList, cellsT g9 23 (⟨K, 4, 0, 0, (J : Int) + 1, j.inc, 0, 0, 0, v, 0⟩ : Msg).cs, cellsT g10 40 j.cs] := (Sb.setCell 3 rfl 9 (.int .i64 v)).setCell 3 rfl 1 (.int .i64 4)
    obtain ⟨e0, e1, e2, e3, e4, e5, e6, e7, e8, e9, e10⟩ := Sb.msgFrozen 3 rfl
    obtain ⟨y0, y1, y2, y3, y4, y5, y6, y7, y8, y9, y10⟩ := Sb.msg 3 rfl
    obtain ⟨f0, f1, f2, f3, f4, f5, f6, f7, f8, f9, f10⟩ := Sb.msgFrozen 1 rfl
    obtain ⟨z0, z1, z2, z3, z4, z5, z6, z7, z8, z9, z10⟩ := Sb.msg 1 rfl
    have SX := (S8.front 1 rfl).setMsg (m' := ⟨K, 4, 0, 0, (J : Int) + 1, j.inc, 0, 0, 0, v, 0⟩)
    go_wp2
    exact bodyPost_ret (res_msgB rfl _ _ g6 _ _ rfl (by exact SX.heap 0 rfl) rfl rfl) rfl ⟨by rw [E.out]; rfl, SX.fin⟩
  have d3 : (j.phase == 3) = false := by simpa using c3
  by_cases c1 : j.phase = 1
  · have d1 : (j.phase == 1) = true := by simpa using c1
    have E : Hid (wOrderJ s K x o j = ⟨K, 2, 0, 0, (J : Int) + 1, j.inc, x.version, 0, 0, 0, 0⟩) := by rw [Hid, HE.out]; unfold wOrderJ; rw [if_neg c2, if_neg c3, if_pos c1]
    clear c1 c2 c3 HE
    have Sb := S7
    have S8 : St w _ [cellsT g3 33 s.cs, cellsT g6 23 Msg.zero.cs, cellsT g8 38 (#[.bool true, .bool x.cordon, .bool false, .int .i64 x.version, .int .i64 ((J : Int) + 1)] : Array Value).toList, cellsT g9 23 (⟨K, 2, 0, 0, (J : Int) + 1, j.inc, x.version, 0, 0, 0, 0⟩ : Msg).cs, cellsT g10 40 j.cs] := (S7.setCell 3 rfl 6 (.int .i64 x.version)).setCell 3 rfl 1 (.int .i64 2)
    obtain ⟨e0, e1, e2, e3, e4, e5, e6, e7, e8, e9, e10⟩ := Sb.msgFrozen 3 rfl
    obtain ⟨y0, y1, y2, y3, y4, y5, y6, y7, y8, y9, y10⟩ := Sb.msg 3 rfl
    obtain ⟨f0, f1, f2, f3, f4, f5, f6, f7, f8, f9, f10⟩ := Sb.msgFrozen 1 rfl
    obtain ⟨z0, z1, z2, z3, z4, z5, z6, z7, z8, z9, z10⟩ := Sb.msg 1 rfl
    have SX := (S8.front 1 rfl).setMsg (m' := ⟨K, 2, 0, 0, (J : Int) + 1, j.inc, x.version, 0, 0, 0, 0⟩)
    go_wp2
    exact bodyPost_ret (res_msgB rfl _ _ g6 _ _ rfl (by exact SX.heap 0 rfl) rfl rfl) rfl ⟨by rw [E.out]; rfl, SX.fin⟩
  have d1 : (j.phase == 1) = false := by simpa using c1
  have E : Hid (wOrderJ s K x o j = ⟨K, 2, 0, 0, (J : Int) + 1, j.inc, 0, 0, 0, 0, 0⟩) := by rw [Hid, HE.out]; unfold wOrderJ; rw [if_neg c2, if_neg c3, if_neg c1]
  clear c1 c2 c3 HE
  have Sb := S7
  have S8 : St w _ [cellsT g3 33 s.cs, cellsT g6 23 Msg.zero.cs, cellsT g8 38 (#[.bool true, .bool x.cordon, .bool false, .int .i64 x.version, .int .i64 ((J : Int) + 1)] : Array Value).toList, cellsT g9 23 (⟨K, 2, 0, 0, (J : Int) + 1, j.inc, 0, 0, 0, 0, 0⟩ : Msg).cs, cellsT g10 40 j.cs] := S7.setCell 3 rfl 1 (.int .i64 2)
  obtain ⟨e0, e1, e2, e3, e4, e5, e6, e7, e8, e9, e10⟩ := Sb.msgFrozen 3 rfl
  obtain ⟨y0, y1, y2, y3, y4, y5, y6, y7, y8, y9, y10⟩ := Sb.msg 3 rfl
  obtain ⟨f0, f1, f2, f3, f4, f5, f6, f7, f8, f9, f10⟩ := Sb.msgFrozen 1 rfl
  obtain ⟨z0, z1, z2, z3, z4, z5, z6, z7, z8, z9, z10⟩ := Sb.msg 1 rfl
  have SX := (S8.front 1 rfl).setMsg (m' := ⟨K, 2, 0, 0, (J : Int) + 1, j.inc, 0, 0, 0, 0, 0⟩)
  go_wp2
  exact bodyPost_ret (res_msgB rfl _ _ g6 _ _ rfl (by exact SX.heap 0 rfl) rfl rfl) rfl ⟨by rw [E.out]; rfl, SX.fin⟩
theorem wOrder_any (S : St w0 w r) (hk : r[k]? = some (soT sv o)) (s : STA) (hs : s.At w) (hT : TabOk w) (hO : OrdOk s) (node : Int) :
    Calls Tryd.prog 13 #[.agg #[.slice s.na s.nn s.nc, .slice s.ja s.jn s.jc, .int .i64 s.goal, .int .i64 s.prior, .int .i64 s.mode, .int .i64 s.term], .int .i64 node, sv] w fun e w' => e = .returned (orderV (wOrder s node o)) ∧ Below w.heap.size w w' := by
  rcases hx : wOrder s node o with _ | m
  · have := wOrder_none (sv := sv) s hs node hx
    rw [hx] at this; exact this
  · have h1 : ¬ (node < 0 ∨ (s.nn : Int) ≤ node) := fun h => by rw [wOrder, if_pos h] at hx; cases hx
    obtain ⟨K, rfl⟩ : ∃ K : Nat, node = K := ⟨node.toNat, by omega⟩
    have hK : K < s.nn := by omega
    have hl : K < s.N.length := by rw [hs.nn]; exact hK
    rw [wOrder, if_neg h1, Int.toNat_natCast, List.getElem?_eq_getElem hl] at hx
    have o1 := hO.job K hl
    have o2 := hO.mv K hl
    have hget : s.N[K]? = some s.N[K] := List.getElem?_eq_getElem hl
    generalize s.N[K] = x at *
    have hu : x.up = true := by
      cases h : x.up
      · simp [h] at hx
      · rfl
    simp only [hu, if_true, Option.some.injEq] at hx
    subst hx
    unfold wOrderN
    by_cases hj : x.job = 0
    · rw [if_pos hj]
      exact wOrder_free s hs K hK x hget hu hj
    · rw [if_neg hj]
      obtain ⟨J, hJ⟩ : ∃ J : Nat, x.job = J + 1 := ⟨(x.job - 1).toNat, by omega⟩
      have hJn : J < s.jn := by omega
      have hlJ : J < s.J.length := by rw [hs.jn]; exact hJn
      rw [show (x.job - 1).toNat = J by omega, List.getElem?_eq_getElem hlJ]
      have hm : x.moving = false := by
        cases h : x.moving
        · rfl
        · exact absurd (o2 h) hj
      exact wOrder_job S hk s hs hT K hK x hget hu hm J hJ hJn _ (List.getElem?_eq_getElem hlJ) (hO.put J hlJ)
end
end Go.Proofs.YtilobmefomoemaaDoor
