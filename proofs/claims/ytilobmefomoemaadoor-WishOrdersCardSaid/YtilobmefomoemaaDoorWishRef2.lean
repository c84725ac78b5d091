/- Wish: the document's orders. -/
import Derived.Test.YtilobmefomoemaaDoorWishRef
import Derived.Test.YtilobmefomoemaaDoorWish8
namespace Go.Proofs.YtilobmefomoemaaDoor
set_option linter.unusedVariables false
set_option linter.unusedSimpArgs false
open Go.RowKit
theorem heap32 (w : World) (o1 o3 : Obj) (cs : Array Value) (T : TypeId) : (((w.alloc o1).alloc (.cells cs T)).alloc o3).heap[w.heap.size + 1]? = some (.cells cs T (0, 0)) := by
  have h := heap2w w o1 cs T
  rw [heap_alloc_old _ _ (by rw [alloc_size, alloc_size]; omega)]
  exact h
theorem heap52 (w : World) (o1 o3 o4 o5 : Obj) (cs : Array Value) (T : TypeId) : (((((w.alloc o1).alloc (.cells cs T)).alloc o3).alloc o4).alloc o5).heap[w.heap.size + 1]? = some (.cells cs T (0, 0)) := by
  have h := heap2w w o1 cs T
  rw [heap_alloc_old _ _ (by rw [alloc_size, alloc_size, alloc_size, alloc_size]; omega), heap_alloc_old _ _ (by rw [alloc_size, alloc_size, alloc_size]; omega), heap_alloc_old _ _ (by rw [alloc_size, alloc_size]; omega)]
  exact h
set_option maxRecDepth 10000 in
set_option maxHeartbeats 1600000 in
theorem rMeant (s : STA) (w : World) : Calls Tryd.prog 46 #[.agg #[.slice s.na s.nn s.nc, .slice s.ja s.jn s.jc, .int .i64 s.goal, .int .i64 s.prior, .int .i64 s.mode, .int .i64 s.term]] w fun e w' => e = .returned (.int .i64 s.meant) ∧ Below w.heap.size w w' := by
  have hb := ((St.start w).alloc (.cells #[.slice s.na s.nn s.nc, .slice s.ja s.jn s.jc, .int .i64 s.goal, .int .i64 s.prior, .int .i64 s.mode, .int .i64 s.term] 33)).fin
  by_cases h : s.mode = 2
  · have g : (s.mode == 2) = true := by simpa using h
    have E : Hid (s.meant = s.prior) := if_pos h
    clear h
    go_enter Tryd.func46, Tryd.ntmps46
    go_wp2
    go_ret
    exact ⟨by rw [E.out]; rfl, hb⟩
  · have g : (s.mode == 2) = false := by simpa using h
    have E : Hid (s.meant = s.goal) := if_neg h
    clear h
    go_enter Tryd.func46, Tryd.ntmps46
    go_wp2
    go_ret
    exact ⟨by rw [E.out]; rfl, hb⟩
section
variable {w0 w : World} {tl : List Thing} {h : Nat} {q : QS} {sv : Value} {o : Option SS}
set_option maxRecDepth 10000 in
set_option maxHeartbeats 3200000 in
theorem rOrder_none (s : STA) (hs : s.At w) (node : Int) (hN : wOrder s node o = none) :
    Calls Tryd.prog 22 #[.agg #[.slice s.na s.nn s.nc, .slice s.ja s.jn s.jc, .int .i64 s.goal, .int .i64 s.prior, .int .i64 s.mode, .int .i64 s.term], .int .i64 node, sv] w fun e w' => e = .returned (orderV (wOrder s node o)) ∧ Below w.heap.size w w' := by
  have hb := ((((St.start w).alloc (.cells #[.slice s.na s.nn s.nc, .slice s.ja s.jn s.jc, .int .i64 s.goal, .int .i64 s.prior, .int .i64 s.mode, .int .i64 s.term] 33)).alloc (.cells #[.int .i64 0, .int .i64 0, .int .i64 0, .int .i64 0, .int .i64 0, .int .i64 0, .int .i64 0, .int .i64 0, .int .i64 0, .int .i64 0, .int .i64 0] 23)).alloc (.cells #[.int .i64 0, .int .i64 0, .int .i64 0, .int .i64 0, .int .i64 0, .int .i64 0, .int .i64 0, .int .i64 0, .int .i64 0, .int .i64 0, .int .i64 0] 23)).fin
  have E := hid hN
  by_cases h1 : node < 0
  · have g1 : decide (node < 0) = true := decide_eq_true h1
    clear h1 hN
    go_enter Tryd.func22, Tryd.ntmps22
    go_wp2
    exact bodyPost_ret (res_msgB rfl _ _ (w.heap.size + 1) _ _ rfl (heap32 _ _ _ _ _) rfl rfl) rfl ⟨by rw [E.out]; rfl, hb⟩
  by_cases h2 : (s.nn : Int) ≤ node
  · have g1 : decide (node < 0) = false := decide_eq_false h1
    have g2 : decide ((s.nn : Int) ≤ node) = true := decide_eq_true h2
    clear h1 h2 hN
    go_enter Tryd.func22, Tryd.ntmps22
    go_wp2
    exact bodyPost_ret (res_msgB rfl _ _ (w.heap.size + 1) _ _ rfl (heap32 _ _ _ _ _) rfl rfl) rfl ⟨by rw [E.out]; rfl, hb⟩
  obtain ⟨K, rfl⟩ : ∃ K : Nat, node = K := ⟨node.toNat, by omega⟩
  have hK : K < s.nn := by omega
  have hl : K < s.N.length := by rw [hs.nn]; exact hK
  have i0 := fun wx => idxND s.na s.nn s.nc (fun h => hs.n.ok (by rw [hs.nn]; exact h)) K hK wx
  have HX : Hid (∀ w', Below w.heap.size w w' → NdAt w' (adr s.na (K * 5)) s.N[K]) := fun w' hb => (hs.n.all eNDok hb).ndAt hl
  have hu : s.N[K].up = false := by
    rw [wOrder, if_neg (by omega), Int.toNat_natCast, List.getElem?_eq_getElem hl] at hN
    cases h : s.N[K].up
    · rfl
    · simp [h] at hN
  generalize s.N[K] = x at *
  generalize adr s.na (K * 5) = A at *
  have g1 : decide ((K : Int) < 0) = false := decide_eq_false (by omega)
  have g2 : decide ((s.nn : Int) ≤ (K : Int)) = false := decide_eq_false (by omega)
  have g3 : decide (s.nn ≤ K) = false := decide_eq_false (by omega)
  obtain ⟨x0, x1, x2, x3, x4⟩ := HX.out _ hb
  rw [hu] at x0
  clear h1 h2 hN hl hK hs hu
  go_enter Tryd.func22, Tryd.ntmps22
  go_wp2
  exact bodyPost_ret (res_msgB rfl _ _ (w.heap.size + 1) _ _ rfl (heap32 _ _ _ _ _) rfl rfl) rfl ⟨by rw [E.out]; rfl, hb⟩
set_option maxRecDepth 10000 in
set_option maxHeartbeats 3200000 in
theorem rOrder_free (s : STA) (hs : s.At w) (K : Nat) (hK : K < s.nn) (x : ND) (hx : s.N[K]? = some x) (hu : x.up = true) (hj : x.job = 0) :
    Calls Tryd.prog 22 #[.agg #[.slice s.na s.nn s.nc, .slice s.ja s.jn s.jc, .int .i64 s.goal, .int .i64 s.prior, .int .i64 s.mode, .int .i64 s.term], .int .i64 (K : Int), sv] w fun e w' => e = .returned (orderV (some ⟨K, wKind x, 0, 0, 0, 0, wVer s x, 0, 0, 0, 0⟩)) ∧ Below w.heap.size w w' := by
  have hl : K < s.N.length := by rw [hs.nn]; exact hK
  have i0 := fun wx => idxND s.na s.nn s.nc (fun h => hs.n.ok (by rw [hs.nn]; exact h)) K hK wx
  have hx' : s.N[K] = x := by rw [List.getElem?_eq_getElem hl] at hx; exact Option.some.inj hx
  have HX : Hid (∀ w', Below w.heap.size w w' → NdAt w' (adr s.na (K * 5)) x) := fun w' hb => by
    have := (hs.n.all eNDok hb).ndAt hl
    rw [hx'] at this; exact this
  generalize adr s.na (K * 5) = A at *
  have g1 : decide ((K : Int) < 0) = false := decide_eq_false (by omega)
  have g2 : decide ((s.nn : Int) ≤ (K : Int)) = false := decide_eq_false (by omega)
  have g3 : decide (s.nn ≤ K) = false := decide_eq_false (by omega)
  have g4 : (x.job == 0) = true := by rw [hj]; rfl
  have S1 := (((St.start w).alloc (.cells #[.slice s.na s.nn s.nc, .slice s.ja s.jn s.jc, .int .i64 s.goal, .int .i64 s.prior, .int .i64 s.mode, .int .i64 s.term] 33)).alloc (.cells #[.int .i64 0, .int .i64 0, .int .i64 0, .int .i64 0, .int .i64 0, .int .i64 0, .int .i64 0, .int .i64 0, .int .i64 0, .int .i64 0, .int .i64 0] 23)).alloc (.cells #[.int .i64 0, .int .i64 0, .int .i64 0, .int .i64 0, .int .i64 0, .int .i64 0, .int .i64 0, .int .i64 0, .int .i64 0, .int .i64 0, .int .i64 0] 23)
  obtain ⟨x0, x1, x2, x3, x4⟩ := HX.out _ S1.fin
  rw [hu] at x0
  rw [hj] at x4
  clear hx hx' hl hK hs hj
  by_cases hm : x.moving = true
  · have E1 : Hid (wKind x = 5) := if_pos hm
    have E2 : Hid (wVer s x = s.meant) := if_pos hm
    rw [hm] at x2
    clear hm
    go_enter Tryd.func22, Tryd.ntmps22
    go_wp2_with fail
    have S4 : St w _ [cellsT (w.heap.size + 1) 23 Msg.zero.cs, cellsT (w.heap.size + 1 + 1) 23 (⟨K, 5, 0, 0, 0, 0, 0, 0, 0, 0, 0⟩ : Msg).cs, cellsT (w.heap.size + 1 + 1 + 1) 38 [.bool true, .bool x.cordon, .bool true, .int .i64 x.version, .int .i64 0]] := ((((St.start w).alloc (.cells #[.slice s.na s.nn s.nc, .slice s.ja s.jn s.jc, .int .i64 s.goal, .int .i64 s.prior, .int .i64 s.mode, .int .i64 s.term] 33)).newAt 23 #[.int .i64 0, .int .i64 0, .int .i64 0, .int .i64 0, .int .i64 0, .int .i64 0, .int .i64 0, .int .i64 0, .int .i64 0, .int .i64 0, .int .i64 0] (w.heap.size + 1) (alloc_size _ _)).newAt 23 #[.int .i64 K, .int .i64 5, .int .i64 0, .int .i64 0, .int .i64 0, .int .i64 0, .int .i64 0, .int .i64 0, .int .i64 0, .int .i64 0, .int .i64 0] (w.heap.size + 1 + 1) (by simp only [alloc_size])).newAt 38 #[.bool true, .bool x.cordon, .bool true, .int .i64 x.version, .int .i64 0] (w.heap.size + 1 + 1 + 1) (by simp only [alloc_size])
    generalize w.heap.size + 1 + 1 + 1 = g9 at *
    generalize w.heap.size + 1 + 1 = g8 at *
    generalize w.heap.size + 1 = g6 at *
    generalize (((w.alloc _).alloc _).alloc _).alloc _ = w4 at *
    refine (rMeant s _).mono ?_
    rintro e w5 ⟨rfl, hb5⟩
    have S5 := S4.grow hb5
    clear S4 hb5 S1 x0 x1 x2 x3 x4 i0 HX
    generalize s.meant = v at *
    have SZ := S5.setCell 1 rfl 6 (.int .i64 v)
    obtain ⟨f0, f1, f2, f3, f4, f5, f6, f7, f8, f9, f10⟩ := S5.msgFrozen 0 rfl
    obtain ⟨z0, z1, z2, z3, z4, z5, z6, z7, z8, z9, z10⟩ := S5.msg 0 rfl
    obtain ⟨e0, e1, e2, e3, e4, e5, e6, e7, e8, e9, e10⟩ := S5.msgFrozen 1 rfl
    obtain ⟨y0, y1, y2, y3, y4, y5, y6, y7, y8, y9, y10⟩ := S5.msg 1 rfl
    have nj := S5.cell 2 rfl 4 rfl
    have n1 := S5.neq 0 1 (by decide) rfl rfl
    have n2 := S5.neq 1 0 (by decide) rfl rfl
    have n3 := S5.neq 1 2 (by decide) rfl rfl
    have n4 := S5.neq 2 1 (by decide) rfl rfl
    have SX := SZ.setMsg (m' := ⟨K, 5, 0, 0, 0, 0, v, 0, 0, 0, 0⟩)
    go_wp2
    exact bodyPost_ret (res_msgB rfl _ _ g6 _ _ rfl (by exact SX.heap 0 rfl) rfl rfl) rfl ⟨by rw [E1.out, E2.out]; rfl, SX.fin⟩
  · have E1 : Hid (wKind x = 1) := if_neg hm
    have E2 : Hid (wVer s x = 0) := if_neg hm
    have hm' : x.moving = false := by simpa using hm
    rw [hm'] at x2
    clear hm hm'
    go_enter Tryd.func22, Tryd.ntmps22
    go_wp2
    refine bodyPost_ret (res_msgB rfl _ _ (w.heap.size + 1) _ _ rfl (by exact heap42 _ _ _ _ _ _) rfl rfl) rfl ⟨by rw [E1.out, E2.out]; rfl, ?_⟩
    exact ((((((St.start w).alloc _).alloc _).alloc _).alloc _)).fin
def lowMd (n : Int) (k : Nat) : Int := if lowB n.toNat < k then 0 else 1
theorem lowMd_no {n : Int} (h0 : 0 < n) (h6 : n < 64) (k : Nat) (hk : k < 6) (hb : hasB n k = false) : lowMd n (k + 1) = lowMd n k := by
  have hne : lowB n.toNat ≠ k := fun e => by
    have := low_has ⟨n.toNat, by omega⟩ (by simp; omega)
    simp only at this
    rw [Int.toNat_of_nonneg (by omega), e, hb] at this; cases this
  unfold lowMd
  by_cases h : lowB n.toNat < k
  · rw [if_pos h, if_pos (by omega)]
  · rw [if_neg h, if_neg (by omega)]
theorem low_le {n : Int} (h0 : 0 < n) (h6 : n < 64) (k : Nat) (hk : k < 6) (hb : hasB n k = true) : lowB n.toNat ≤ k := by
  rcases Nat.lt_or_ge k (lowB n.toNat) with h | h
  · have := low_least ⟨n.toNat, by omega⟩ ⟨k, hk⟩ (by simp; omega) h
    simp only at this
    rw [Int.toNat_of_nonneg (by omega), hb] at this; cases this
  · exact h
theorem lowMd_yes {n : Int} (h0 : 0 < n) (h6 : n < 64) (k : Nat) (hk : k < 6) (hb : hasB n k = true) : lowMd n (k + 1) = 0 := by
  have := low_le h0 h6 k hk hb
  unfold lowMd; rw [if_pos (by omega)]
theorem lowMd_at {j : JB} (h0 : 0 < j.nodes) (h6 : j.nodes < 64) (k : Nat) (hk : k < 6) (hb : hasB j.nodes k = true) : j.writes k = lowMd j.nodes k := by
  have := low_le h0 h6 k hk hb
  unfold JB.writes lowMd
  by_cases h : lowB j.nodes.toNat < k
  · rw [if_pos h, if_neg (by omega)]
  · rw [if_neg h, if_pos (by omega)]
set_option maxRecDepth 10000 in
set_option maxHeartbeats 6400000 in
theorem rOrder_p1 (s : STA) (hs : s.At w) (K : Nat) (hK : K < s.nn) (x : ND) (hx : s.N[K]? = some x) (hu : x.up = true) (hm : x.moving = false) (J : Nat) (hxj : x.job = (J : Int) + 1) (hJ : J < s.jn) (j : JB) (hj : s.J[J]? = some j) (hp : j.phase = 1) :
    Calls Tryd.prog 22 #[.agg #[.slice s.na s.nn s.nc, .slice s.ja s.jn s.jc, .int .i64 s.goal, .int .i64 s.prior, .int .i64 s.mode, .int .i64 s.term], .int .i64 (K : Int), sv] w fun e w' => e = .returned (orderV (some ⟨K, 2, 0, 0, (J : Int) + 1, j.inc, x.version, 0, 0, 0, 0⟩)) ∧ Below w.heap.size w w' := by
  have hl : K < s.N.length := by rw [hs.nn]; exact hK
  have hlJ : J < s.J.length := by rw [hs.jn]; exact hJ
  have hjm := hs.jm
  unfold maxLen at hjm
  have i0 := fun wx => idxND s.na s.nn s.nc (fun h => hs.n.ok (by rw [hs.nn]; exact h)) K hK wx
  have i1 := fun wx => idxJB s.ja s.jn s.jc (fun h => hs.j.ok (by rw [hs.jn]; exact h)) J J rfl hJ wx
  have hx' : s.N[K] = x := by rw [List.getElem?_eq_getElem hl] at hx; exact Option.some.inj hx
  have hj' : s.J[J] = j := by rw [List.getElem?_eq_getElem hlJ] at hj; exact Option.some.inj hj
  have HX : Hid (∀ w', Below w.heap.size w w' → NdAt w' (adr s.na (K * 5)) x) := fun w' hb => by
    have := (hs.n.all eNDok hb).ndAt hl
    rw [hx'] at this; exact this
  have HJ : Hid (∀ w', Below w.heap.size w w' → JbAt w' (adr s.ja (J * 12)) j) := fun w' hb => by
    have := (hs.j.all eJBok hb).jbAt hlJ
    rw [hj'] at this; exact this
  generalize adr s.na (K * 5) = A at *
  generalize adr s.ja (J * 12) = B at *
  have HS := hid hs
  have g1 : decide ((K : Int) < 0) = false := decide_eq_false (by omega)
  have g2 : decide ((s.nn : Int) ≤ (K : Int)) = false := decide_eq_false (by omega)
  have g3 : decide (s.nn ≤ K) = false := decide_eq_false (by omega)
  have g4 : ((J : Int) + 1 == 0) = false := by simp; omega
  have S1 := (((St.start w).alloc (.cells #[.slice s.na s.nn s.nc, .slice s.ja s.jn s.jc, .int .i64 s.goal, .int .i64 s.prior, .int .i64 s.mode, .int .i64 s.term] 33)).alloc (.cells #[.int .i64 0, .int .i64 0, .int .i64 0, .int .i64 0, .int .i64 0, .int .i64 0, .int .i64 0, .int .i64 0, .int .i64 0, .int .i64 0, .int .i64 0] 23)).alloc (.cells #[.int .i64 0, .int .i64 0, .int .i64 0, .int .i64 0, .int .i64 0, .int .i64 0, .int .i64 0, .int .i64 0, .int .i64 0, .int .i64 0, .int .i64 0] 23)
  have S3 := (((St.start w).alloc (.cells #[.slice s.na s.nn s.nc, .slice s.ja s.jn s.jc, .int .i64 s.goal, .int .i64 s.prior, .int .i64 s.mode, .int .i64 s.term] 33)).alloc (.cells #[.int .i64 0, .int .i64 0, .int .i64 0, .int .i64 0, .int .i64 0, .int .i64 0, .int .i64 0, .int .i64 0, .int .i64 0, .int .i64 0, .int .i64 0] 23)).alloc (.cells #[.int .i64 K, .int .i64 1, .int .i64 0, .int .i64 0, .int .i64 0, .int .i64 0, .int .i64 0, .int .i64 0, .int .i64 0, .int .i64 0, .int .i64 0] 23)
  have S3 := S3.alloc (.cells #[.bool true, .bool x.cordon, .bool false, .int .i64 x.version, .int .i64 ((J : Int) + 1)] 38)
  obtain ⟨x0, x1, x2, x3, x4⟩ := HX.out _ S1.fin
  obtain ⟨j0, j1, j2, j3, j4, j5, j6, j7, j8, j9, j10, j11⟩ := HJ.out _ S3.fin
  rw [hu] at x0
  rw [hm] at x2
  rw [hxj] at x4
  rw [hp] at j6
  have HXJ := hid hxj
  clear hx hx' hj hj' hl hlJ hK hs hu hm hxj hp
  go_enter Tryd.func22, Tryd.ntmps22
  go_wp2
  exact bodyPost_ret (res_msgB rfl _ _ (w.heap.size + 1) _ _ rfl (by exact heap52 _ _ _ _ _ _ _) rfl rfl) rfl ⟨rfl, ((((((St.start w).alloc _).alloc _).alloc _).alloc _).alloc _).fin⟩
set_option maxRecDepth 10000 in
set_option maxHeartbeats 6400000 in
theorem rOrder_p2 (S : St w0 w (rstT h q :: tl)) (hq : q.L.length ≤ 100000) (s : STA) (hs : s.At w) (K : Nat) (hK : K < s.nn) (x : ND) (hx : s.N[K]? = some x) (hu : x.up = true) (hm : x.moving = false) (J : Nat) (hxj : x.job = (J : Int) + 1) (hJ : J < s.jn) (j : JB) (hj : s.J[J]? = some j) (hp : j.phase = 2) :
    Calls Tryd.prog 22 #[.agg #[.slice s.na s.nn s.nc, .slice s.ja s.jn s.jc, .int .i64 s.goal, .int .i64 s.prior, .int .i64 s.mode, .int .i64 s.term], .int .i64 (K : Int), .pointer (some ⟨h, 0, none⟩)] w fun e w' => e = .returned (orderV (some ⟨K, 3, 0, 0, (J : Int) + 1, j.inc, 0, j.epoch, 0, 0, qHad s ((J : Int) + 1) q⟩)) ∧ Below w.heap.size w w' := by
  have HQ := hid hq
  clear hq
  have hl : K < s.N.length := by rw [hs.nn]; exact hK
  have hlJ : J < s.J.length := by rw [hs.jn]; exact hJ
  have hjm := hs.jm
  unfold maxLen at hjm
  have i0 := fun wx => idxND s.na s.nn s.nc (fun h => hs.n.ok (by rw [hs.nn]; exact h)) K hK wx
  have i1 := fun wx => idxJB s.ja s.jn s.jc (fun h => hs.j.ok (by rw [hs.jn]; exact h)) J J rfl hJ wx
  have hx' : s.N[K] = x := by rw [List.getElem?_eq_getElem hl] at hx; exact Option.some.inj hx
  have hj' : s.J[J] = j := by rw [List.getElem?_eq_getElem hlJ] at hj; exact Option.some.inj hj
  have HX : Hid (∀ w', Below w.heap.size w w' → NdAt w' (adr s.na (K * 5)) x) := fun w' hb => by
    have := (hs.n.all eNDok hb).ndAt hl
    rw [hx'] at this; exact this
  have HJ : Hid (∀ w', Below w.heap.size w w' → JbAt w' (adr s.ja (J * 12)) j) := fun w' hb => by
    have := (hs.j.all eJBok hb).jbAt hlJ
    rw [hj'] at this; exact this
  generalize adr s.na (K * 5) = A at *
  generalize adr s.ja (J * 12) = B at *
  have HS := hid hs
  have g1 : decide ((K : Int) < 0) = false := decide_eq_false (by omega)
  have g2 : decide ((s.nn : Int) ≤ (K : Int)) = false := decide_eq_false (by omega)
  have g3 : decide (s.nn ≤ K) = false := decide_eq_false (by omega)
  have g4 : ((J : Int) + 1 == 0) = false := by simp; omega
  have S1 := (((St.start w).alloc (.cells #[.slice s.na s.nn s.nc, .slice s.ja s.jn s.jc, .int .i64 s.goal, .int .i64 s.prior, .int .i64 s.mode, .int .i64 s.term] 33)).alloc (.cells #[.int .i64 0, .int .i64 0, .int .i64 0, .int .i64 0, .int .i64 0, .int .i64 0, .int .i64 0, .int .i64 0, .int .i64 0, .int .i64 0, .int .i64 0] 23)).alloc (.cells #[.int .i64 0, .int .i64 0, .int .i64 0, .int .i64 0, .int .i64 0, .int .i64 0, .int .i64 0, .int .i64 0, .int .i64 0, .int .i64 0, .int .i64 0] 23)
  have S3 := (((St.start w).alloc (.cells #[.slice s.na s.nn s.nc, .slice s.ja s.jn s.jc, .int .i64 s.goal, .int .i64 s.prior, .int .i64 s.mode, .int .i64 s.term] 33)).alloc (.cells #[.int .i64 0, .int .i64 0, .int .i64 0, .int .i64 0, .int .i64 0, .int .i64 0, .int .i64 0, .int .i64 0, .int .i64 0, .int .i64 0, .int .i64 0] 23)).alloc (.cells #[.int .i64 K, .int .i64 1, .int .i64 0, .int .i64 0, .int .i64 0, .int .i64 0, .int .i64 0, .int .i64 0, .int .i64 0, .int .i64 0, .int .i64 0] 23)
  have S3 := S3.alloc (.cells #[.bool true, .bool x.cordon, .bool false, .int .i64 x.version, .int .i64 ((J : Int) + 1)] 38)
  obtain ⟨x0, x1, x2, x3, x4⟩ := HX.out _ S1.fin
  obtain ⟨j0, j1, j2, j3, j4, j5, j6, j7, j8, j9, j10, j11⟩ := HJ.out _ S3.fin
  rw [hu] at x0
  rw [hm] at x2
  rw [hxj] at x4
  rw [hp] at j6
  have HXJ := hid hxj
  clear hx hx' hj hj' hl hlJ hK hs hu hm hxj hp
  go_enter Tryd.func22, Tryd.ntmps22
  go_wp2_with fail
  have S4 : St w _ [cellsT (w.heap.size + 1) 23 Msg.zero.cs, cellsT (w.heap.size + 1 + 1) 23 (⟨K, 3, 0, 0, (J : Int) + 1, j.inc, 0, j.epoch, 0, 0, 0⟩ : Msg).cs] := (((((St.start w).alloc (.cells #[.slice s.na s.nn s.nc, .slice s.ja s.jn s.jc, .int .i64 s.goal, .int .i64 s.prior, .int .i64 s.mode, .int .i64 s.term] 33)).newAt 23 #[.int .i64 0, .int .i64 0, .int .i64 0, .int .i64 0, .int .i64 0, .int .i64 0, .int .i64 0, .int .i64 0, .int .i64 0, .int .i64 0, .int .i64 0] (w.heap.size + 1) (alloc_size _ _)).newAt 23 #[.int .i64 K, .int .i64 3, .int .i64 0, .int .i64 0, .int .i64 ((J : Int) + 1), .int .i64 j.inc, .int .i64 0, .int .i64 j.epoch, .int .i64 0, .int .i64 0, .int .i64 0] (w.heap.size + 1 + 1) (by simp only [alloc_size])).alloc (.cells #[.bool true, .bool x.cordon, .bool false, .int .i64 x.version, .int .i64 ((J : Int) + 1)] 38)).alloc (.cells #[.int .i64 j.queue, .int .i64 j.prio, .int .i64 j.lo, .int .i64 j.hi, .int .i64 j.work, .int .i64 j.pin, .int .i64 2, .int .i64 j.inc, .int .i64 j.nodes, .int .i64 j.since, .int .i64 j.until_, .int .i64 j.epoch] 40)
  generalize w.heap.size + 1 + 1 + 1 + 1 = g10 at *
  generalize w.heap.size + 1 + 1 + 1 = g9 at *
  generalize w.heap.size + 1 + 1 = g8 at *
  generalize w.heap.size + 1 = g6 at *
  generalize ((((w.alloc _).alloc _).alloc _).alloc _).alloc _ = w4 at *
  refine (rHad_any (S.grow S4.fin) HQ.out s (HS.out.all S4.fin) ((J : Int) + 1)).mono ?_
  rintro e w5 ⟨rfl, hb5⟩
  have S5 := S4.grow hb5
  clear S4 hb5 S1 S3 x0 x1 x2 x3 x4 i0 i1 HX HJ j0 j1 j2 j3 j4 j5 j6 j7 j8 j9 j10 j11
  obtain ⟨v, hv⟩ : ∃ v, qHad s ((J : Int) + 1) q = v := ⟨_, rfl⟩
  rw [hv]
  have HV := hid hv
  clear hv
  have SZ := S5.setCell 1 rfl 10 (.int .i64 v)
  obtain ⟨f0, f1, f2, f3, f4, f5, f6, f7, f8, f9, f10⟩ := S5.msgFrozen 0 rfl
  obtain ⟨z0, z1, z2, z3, z4, z5, z6, z7, z8, z9, z10⟩ := S5.msg 0 rfl
  obtain ⟨e0, e1, e2, e3, e4, e5, e6, e7, e8, e9, e10⟩ := S5.msgFrozen 1 rfl
  obtain ⟨y0, y1, y2, y3, y4, y5, y6, y7, y8, y9, y10⟩ := S5.msg 1 rfl
  have n1 := S5.neq 0 1 (by decide) rfl rfl
  have n2 := S5.neq 1 0 (by decide) rfl rfl
  have SX := SZ.setMsg (m' := ⟨K, 3, 0, 0, (J : Int) + 1, j.inc, 0, j.epoch, 0, 0, v⟩)
  go_wp2
  exact bodyPost_ret (res_msgB rfl _ _ g6 _ _ rfl (by exact SX.heap 0 rfl) rfl rfl) rfl ⟨by rw [HV.out]; rfl, SX.fin⟩
set_option maxRecDepth 10000 in
set_option maxHeartbeats 6400000 in
theorem rOrder_p3 (s : STA) (hs : s.At w) (K : Nat) (hK : K < s.nn) (x : ND) (hx : s.N[K]? = some x) (hu : x.up = true) (hm : x.moving = false) (J : Nat) (hxj : x.job = (J : Int) + 1) (hJ : J < s.jn) (j : JB) (hj : s.J[J]? = some j) (hp : j.phase = 3) (hK6 : K < 6) (n0 : 0 < j.nodes) (n6 : j.nodes < 64) :
    Calls Tryd.prog 22 #[.agg #[.slice s.na s.nn s.nc, .slice s.ja s.jn s.jc, .int .i64 s.goal, .int .i64 s.prior, .int .i64 s.mode, .int .i64 s.term], .int .i64 (K : Int), sv] w fun e w' => e = .returned (orderV (some ⟨K, 4, 0, 0, (J : Int) + 1, j.inc, 0, 0, 0, lowMd j.nodes K, 0⟩)) ∧ Below w.heap.size w w' := by
  have hl : K < s.N.length := by rw [hs.nn]; exact hK
  have hlJ : J < s.J.length := by rw [hs.jn]; exact hJ
  have hjm := hs.jm
  unfold maxLen at hjm
  have i0 := fun wx => idxND s.na s.nn s.nc (fun h => hs.n.ok (by rw [hs.nn]; exact h)) K hK wx
  have i1 := fun wx => idxJB s.ja s.jn s.jc (fun h => hs.j.ok (by rw [hs.jn]; exact h)) J J rfl hJ wx
  have hx' : s.N[K] = x := by rw [List.getElem?_eq_getElem hl] at hx; exact Option.some.inj hx
  have hj' : s.J[J] = j := by rw [List.getElem?_eq_getElem hlJ] at hj; exact Option.some.inj hj
  have HX : Hid (∀ w', Below w.heap.size w w' → NdAt w' (adr s.na (K * 5)) x) := fun w' hb => by
    have := (hs.n.all eNDok hb).ndAt hl
    rw [hx'] at this; exact this
  have HJ : Hid (∀ w', Below w.heap.size w w' → JbAt w' (adr s.ja (J * 12)) j) := fun w' hb => by
    have := (hs.j.all eJBok hb).jbAt hlJ
    rw [hj'] at this; exact this
  generalize adr s.na (K * 5) = A at *
  generalize adr s.ja (J * 12) = B at *
  have HS := hid hs
  have g1 : decide ((K : Int) < 0) = false := decide_eq_false (by omega)
  have g2 : decide ((s.nn : Int) ≤ (K : Int)) = false := decide_eq_false (by omega)
  have g3 : decide (s.nn ≤ K) = false := decide_eq_false (by omega)
  have g4 : ((J : Int) + 1 == 0) = false := by simp; omega
  have S1 := (((St.start w).alloc (.cells #[.slice s.na s.nn s.nc, .slice s.ja s.jn s.jc, .int .i64 s.goal, .int .i64 s.prior, .int .i64 s.mode, .int .i64 s.term] 33)).alloc (.cells #[.int .i64 0, .int .i64 0, .int .i64 0, .int .i64 0, .int .i64 0, .int .i64 0, .int .i64 0, .int .i64 0, .int .i64 0, .int .i64 0, .int .i64 0] 23)).alloc (.cells #[.int .i64 0, .int .i64 0, .int .i64 0, .int .i64 0, .int .i64 0, .int .i64 0, .int .i64 0, .int .i64 0, .int .i64 0, .int .i64 0, .int .i64 0] 23)
  have S3 := (((St.start w).alloc (.cells #[.slice s.na s.nn s.nc, .slice s.ja s.jn s.jc, .int .i64 s.goal, .int .i64 s.prior, .int .i64 s.mode, .int .i64 s.term] 33)).alloc (.cells #[.int .i64 0, .int .i64 0, .int .i64 0, .int .i64 0, .int .i64 0, .int .i64 0, .int .i64 0, .int .i64 0, .int .i64 0, .int .i64 0, .int .i64 0] 23)).alloc (.cells #[.int .i64 K, .int .i64 1, .int .i64 0, .int .i64 0, .int .i64 0, .int .i64 0, .int .i64 0, .int .i64 0, .int .i64 0, .int .i64 0, .int .i64 0] 23)
  have S3 := S3.alloc (.cells #[.bool true, .bool x.cordon, .bool false, .int .i64 x.version, .int .i64 ((J : Int) + 1)] 38)
  obtain ⟨x0, x1, x2, x3, x4⟩ := HX.out _ S1.fin
  obtain ⟨j0, j1, j2, j3, j4, j5, j6, j7, j8, j9, j10, j11⟩ := HJ.out _ S3.fin
  rw [hu] at x0
  rw [hm] at x2
  rw [hxj] at x4
  rw [hp] at j6
  have HXJ := hid hxj
  clear hx hx' hj hj' hl hlJ hK hs hu hm hxj hp
  go_enter Tryd.func22, Tryd.ntmps22
  go_wp2_with fail
  have S4 : St w _ [cellsT (w.heap.size + 1) 23 Msg.zero.cs, cellsT (w.heap.size + 1 + 1) 23 (⟨K, 4, 0, 0, (J : Int) + 1, j.inc, 0, 0, 0, 1, 0⟩ : Msg).cs, cellsT (w.heap.size + 1 + 1 + 1 + 1) 40 (#[.int .i64 j.queue, .int .i64 j.prio, .int .i64 j.lo, .int .i64 j.hi, .int .i64 j.work, .int .i64 j.pin, .int .i64 3, .int .i64 j.inc, .int .i64 j.nodes, .int .i64 j.since, .int .i64 j.until_, .int .i64 j.epoch] : Array Value).toList] := (((((St.start w).alloc (.cells #[.slice s.na s.nn s.nc, .slice s.ja s.jn s.jc, .int .i64 s.goal, .int .i64 s.prior, .int .i64 s.mode, .int .i64 s.term] 33)).newAt 23 #[.int .i64 0, .int .i64 0, .int .i64 0, .int .i64 0, .int .i64 0, .int .i64 0, .int .i64 0, .int .i64 0, .int .i64 0, .int .i64 0, .int .i64 0] (w.heap.size + 1) (alloc_size _ _)).newAt 23 #[.int .i64 K, .int .i64 4, .int .i64 0, .int .i64 0, .int .i64 ((J : Int) + 1), .int .i64 j.inc, .int .i64 0, .int .i64 0, .int .i64 0, .int .i64 1, .int .i64 0] (w.heap.size + 1 + 1) (by simp only [alloc_size])).alloc (.cells #[.bool true, .bool x.cordon, .bool false, .int .i64 x.version, .int .i64 ((J : Int) + 1)] 38)).newAt 40 #[.int .i64 j.queue, .int .i64 j.prio, .int .i64 j.lo, .int .i64 j.hi, .int .i64 j.work, .int .i64 j.pin, .int .i64 3, .int .i64 j.inc, .int .i64 j.nodes, .int .i64 j.since, .int .i64 j.until_, .int .i64 j.epoch] (w.heap.size + 1 + 1 + 1 + 1) (by simp only [alloc_size])
  generalize w.heap.size + 1 + 1 + 1 + 1 = g10 at *
  generalize w.heap.size + 1 + 1 + 1 = g9 at *
  generalize w.heap.size + 1 + 1 = g8 at *
  generalize w.heap.size + 1 = g6 at *
  generalize ((((w.alloc _).alloc _).alloc _).alloc _).alloc _ = w4 at *
  clear S1 S3 x0 x1 x2 x3 x4 i0 i1 HX HJ j0 j1 j2 j3 j4 j5 j6 j7 j8 j9 j10 j11
  go_loopw [11] (fun i wr => ∃ k : Nat, k ≤ K ∧ i = .int .i64 k ∧ St w wr [cellsT g6 23 Msg.zero.cs, cellsT g8 23 (⟨K, 4, 0, 0, (J : Int) + 1, j.inc, 0, 0, 0, lowMd j.nodes k, 0⟩ : Msg).cs, cellsT g10 40 (#[.int .i64 j.queue, .int .i64 j.prio, .int .i64 j.lo, .int .i64 j.hi, .int .i64 j.work, .int .i64 j.pin, .int .i64 3, .int .i64 j.inc, .int .i64 j.nodes, .int .i64 j.since, .int .i64 j.until_, .int .i64 j.epoch] : Array Value).toList]) (fun i _ => K - (intOf i).toNat)
  case atStart => exact ⟨0, Nat.zero_le _, rfl, S4⟩
  case round =>
    obtain ⟨k, hk, rfl, Sk⟩ := hrel
    clear S4
    obtain ⟨e0, e1, e2, e3, e4, e5, e6, e7, e8, e9, e10⟩ := Sk.msgFrozen 1 rfl
    by_cases hlt : k < K
    case neg =>
      have g0 : decide ((k : Int) < (K : Int)) = false := decide_eq_false (by omega)
      have g0n : decide (k < K) = false := decide_eq_false (by omega)
      obtain rfl : k = K := by omega
      obtain ⟨f0, f1, f2, f3, f4, f5, f6, f7, f8, f9, f10⟩ := Sk.msgFrozen 0 rfl
      obtain ⟨z0, z1, z2, z3, z4, z5, z6, z7, z8, z9, z10⟩ := Sk.msg 0 rfl
      obtain ⟨y0, y1, y2, y3, y4, y5, y6, y7, y8, y9, y10⟩ := Sk.msg 1 rfl
      have n1 := Sk.neq 0 1 (by decide) rfl rfl
      have n2 := Sk.neq 1 0 (by decide) rfl rfl
      obtain ⟨v, hv⟩ : ∃ v, lowMd j.nodes k = v := ⟨_, rfl⟩
      rw [hv] at Sk y9
      have HV := hid hv
      clear hv
      have SX := Sk.setMsg (m' := ⟨k, 4, 0, 0, (J : Int) + 1, j.inc, 0, 0, 0, v, 0⟩)
      clear hlt hk
      go_wp2
      exact bodyPost_ret (res_msgB rfl _ _ g6 _ _ rfl (by exact SX.heap 0 rfl) rfl rfl) rfl ⟨by rw [HV.out]; rfl, SX.fin⟩
    have g0 : decide ((k : Int) < (K : Int)) = true := decide_eq_true (by omega)
    have g0n : decide (k < K) = true := decide_eq_true (by omega)
    have jn := Sk.cell 2 rfl 8 rfl
    go_wp2_with fail
    refine (rHas j.nodes k _ (by omega) n6 (by omega)).mono ?_
    rintro e wx ⟨rfl, rfl⟩
    rcases hb : hasB j.nodes k with _ | _
    · have HS2 := hid (lowMd_no n0 n6 k (by omega) hb)
      clear hb
      go_wp2
      go_roundw
      case rel => exact ⟨k + 1, by omega, by go_num, by rw [HS2.out]; exact Sk⟩
      case measure => simp [intOf]; omega
    · have HS2 := hid (lowMd_yes n0 n6 k (by omega) hb)
      have S5 := Sk.setCell 1 rfl 9 (.int .i64 0)
      have y9 := Sk.cell 1 rfl 9 rfl
      clear hb
      go_wp2
      go_roundw
      case rel => exact ⟨k + 1, by omega, by go_num, by rw [HS2.out]; exact S5⟩
      case measure => simp [intOf]; omega
theorem rOrder_any (S : St w0 w (rstT h q :: tl)) (hq : q.L.length ≤ 100000) {c : CF} (s : STA) (hs : s.At w) (F : RF c s) {t : SS} (R : RelS t q) (node : Int) :
    Calls Tryd.prog 22 #[.agg #[.slice s.na s.nn s.nc, .slice s.ja s.jn s.jc, .int .i64 s.goal, .int .i64 s.prior, .int .i64 s.mode, .int .i64 s.term], .int .i64 node, .pointer (some ⟨h, 0, none⟩)] w fun e w' => e = .returned (orderV (wOrder s node (some t))) ∧ Below w.heap.size w w' := by
  rcases hx : wOrder s node (some t) with _ | m
  · have := rOrder_none (sv := .pointer (some ⟨h, 0, none⟩)) s hs node hx
    rw [hx] at this; exact this
  · have h1 : ¬ (node < 0 ∨ (s.nn : Int) ≤ node) := fun h => by rw [wOrder, if_pos h] at hx; cases hx
    obtain ⟨K, rfl⟩ : ∃ K : Nat, node = K := ⟨node.toNat, by omega⟩
    have hK : K < s.nn := by omega
    have hl : K < s.N.length := by rw [hs.nn]; exact hK
    rw [wOrder, if_neg h1, Int.toNat_natCast, List.getElem?_eq_getElem hl] at hx
    have hnf := F.node K hl
    have hh := fun J hJ h => own_has F K hl J hJ h
    have hc := F.conf.nodes
    have hn := F.nn
    have hget : s.N[K]? = some s.N[K] := List.getElem?_eq_getElem hl
    generalize s.N[K] = x at *
    have hu : x.up = true := by
      cases h : x.up
      · simp [h] at hx
      · rfl
    simp only [hu, if_true, Option.some.injEq] at hx
    subst hx
    unfold wOrderN
    by_cases hj : x.job = 0
    · rw [if_pos hj]
      exact rOrder_free s hs K hK x hget hu hj
    · rw [if_neg hj]
      have hjb := hnf.job
      obtain ⟨J, hJ⟩ : ∃ J : Nat, x.job = J + 1 := ⟨(x.job - 1).toNat, by omega⟩
      have hJn : J < s.jn := by omega
      have hlJ : J < s.J.length := by rw [hs.jn]; exact hJn
      rw [show (x.job - 1).toNat = J by omega, List.getElem?_eq_getElem hlJ]
      have hm : x.moving = false := by
        cases h : x.moving
        · rfl
        · exact absurd (hnf.mv h).2.2 hj
      have hb := hh J hlJ hJ
      have hjf := F.job J hlJ
      have hgJ : s.J[J]? = some s.J[J] := List.getElem?_eq_getElem hlJ
      have hv := qHad_eq F R ((J : Int) + 1)
      generalize s.J[J] = j at *
      rcases hpl : placedB j.phase with _ | _
      · rw [hjf.rest hpl] at hb
        unfold hasB at hb; simp at hb
      have hput := hjf.put hpl
      have hph : j.phase = 1 ∨ j.phase = 2 ∨ j.phase = 3 := by
        unfold placedB at hpl
        simp at hpl
        omega
      simp only
      unfold wOrderJ
      rcases hph with hp | hp | hp
      · rw [if_neg (by omega), if_neg (by omega), if_pos hp, hJ]
        exact rOrder_p1 s hs K hK x hget hu hm J hJ hJn j hgJ hp
      · rw [if_pos hp, hJ, ← hv]
        exact rOrder_p2 S hq s hs K hK x hget hu hm J hJ hJn j hgJ hp
      · rw [if_neg (by omega), if_pos hp, hJ, lowMd_at hput.pos hput.lt K (by omega) hb]
        exact rOrder_p3 s hs K hK x hget hu hm J hJ hJn j hgJ hp (by omega) hput.pos hput.lt
end
end Go.Proofs.YtilobmefomoemaaDoor
