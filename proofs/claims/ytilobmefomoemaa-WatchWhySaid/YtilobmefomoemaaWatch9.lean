/- Watch: crowded, walked. -/
import Derived.Test.YtilobmefomoemaaWatch8
namespace Go.Proofs.Ytilobmefomoemaa
set_option linter.unusedVariables false
set_option linter.unusedSimpArgs false
open Go.RowKit
def seenOk (s : STA) (G : List GE) (seen : Array Nat) : Prop := ∀ e ∈ gEs 0 G, seen.contains e.born = true → ∀ x ∈ G, gEnt e.born x = e → crowdE s x = false
theorem putO_obj {w : World} {g : Nat} {o : Obj} (h : g < w.heap.size) : (putO w g o).heap[g]? = some o := by
  show (w.heap.setIfInBounds g o)[g]? = _
  simp [h]
set_option maxRecDepth 10000 in
set_option maxHeartbeats 12800000 in
theorem wtCrowded (c : CF) (s : STA) (la : Option Addr) (ln lc : Nat) (sv : Value) (L : List AG) (w : World) (hn : L.length = ln) (hm : ln ≤ 1000000) (hA : AtG eAG w la L) (hs : s.At w) :
    Calls Try.prog 37 #[.agg #[.int .i64 c.nodes, .int .i64 c.queues, .int .i64 c.quota, .int .i64 c.wave, .int .i64 c.lease, .int .i64 c.retry, .int .i64 c.deadline, .int .i64 c.room, .int .i64 c.disk, .slice s.na s.nn s.nc, .slice s.ja s.jn s.jc, .int .i64 s.goal, .int .i64 s.prior, .int .i64 s.mode, .int .i64 s.term, .slice la ln lc, sv]] w fun e w' => e = .returned (.bool (crowdL s L)) ∧ Below w.heap.size w w' := by
  have S1 : St w _ [cellsT w.heap.size 77 (#[.int .i64 c.nodes, .int .i64 c.queues, .int .i64 c.quota, .int .i64 c.wave, .int .i64 c.lease, .int .i64 c.retry, .int .i64 c.deadline, .int .i64 c.room, .int .i64 c.disk, .slice s.na s.nn s.nc, .slice s.ja s.jn s.jc, .int .i64 s.goal, .int .i64 s.prior, .int .i64 s.mode, .int .i64 s.term, .slice la ln lc, sv] : Array Value).toList] := (St.start w).newAt 77 #[.int .i64 c.nodes, .int .i64 c.queues, .int .i64 c.quota, .int .i64 c.wave, .int .i64 c.lease, .int .i64 c.retry, .int .i64 c.deadline, .int .i64 c.room, .int .i64 c.disk, .slice s.na s.nn s.nc, .slice s.ja s.jn s.jc, .int .i64 s.goal, .int .i64 s.prior, .int .i64 s.mode, .int .i64 s.term, .slice la ln lc, sv] w.heap.size rfl
  have HA := hid hA
  have HS := hid hs
  have HN := hid hn
  clear hA hs hn
  obtain ⟨v0, v1, v2, v3, v4, v5, v6, v7, v8, v9, v10, v11, v12, v13, v14, v15, v16⟩ := S1.vwC 0 rfl
  go_enter Try.func37, Try.ntmps37
  go_wp2_with fail
  generalize w.heap.size = g1 at *
  generalize w.alloc _ = w1 at *
  refine (wtGangs la L ln lc w1 HN.out hm (HA.out.all eAGok S1.fin)).mono ?_
  rintro e w2 ⟨gm, G, rfl, hI, hGl, S2⟩
  have HC := hid (crowd_eq (s := s) hI)
  have HGi := hid hI
  have HV : Hid (∀ w' l, St w1 w' l → (w'.cell? ⟨g1, 0, none⟩ = some (.int .i64 c.nodes) ∧ w'.cell? ⟨g1, 1, none⟩ = some (.int .i64 c.queues) ∧ w'.cell? ⟨g1, 2, none⟩ = some (.int .i64 c.quota) ∧ w'.cell? ⟨g1, 3, none⟩ = some (.int .i64 c.wave) ∧ w'.cell? ⟨g1, 4, none⟩ = some (.int .i64 c.lease) ∧ w'.cell? ⟨g1, 5, none⟩ = some (.int .i64 c.retry) ∧ w'.cell? ⟨g1, 6, none⟩ = some (.int .i64 c.deadline) ∧ w'.cell? ⟨g1, 7, none⟩ = some (.int .i64 c.room) ∧ w'.cell? ⟨g1, 8, none⟩ = some (.int .i64 c.disk) ∧ w'.cell? ⟨g1, 9, none⟩ = some (.slice s.na s.nn s.nc) ∧ w'.cell? ⟨g1, 10, none⟩ = some (.slice s.ja s.jn s.jc) ∧ w'.cell? ⟨g1, 11, none⟩ = some (.int .i64 s.goal) ∧ w'.cell? ⟨g1, 12, none⟩ = some (.int .i64 s.prior) ∧ w'.cell? ⟨g1, 13, none⟩ = some (.int .i64 s.mode) ∧ w'.cell? ⟨g1, 14, none⟩ = some (.int .i64 s.term) ∧ w'.cell? ⟨g1, 15, none⟩ = some (.slice la ln lc) ∧ w'.cell? ⟨g1, 16, none⟩ = some sv)) := fun w' l S => by
    have hc : ∀ (k : Nat) (v : Value), w1.cell? ⟨g1, k, none⟩ = some v → w'.cell? ⟨g1, k, none⟩ = some v := fun k v h => by
      rw [← h]; exact S.fin.cell (World.block_lt_of_cell? w1 _ h)
    obtain ⟨v0, v1, v2, v3, v4, v5, v6, v7, v8, v9, v10, v11, v12, v13, v14, v15, v16⟩ := S1.vwC 0 rfl
    exact ⟨hc _ _ v0, hc _ _ v1, hc _ _ v2, hc _ _ v3, hc _ _ v4, hc _ _ v5, hc _ _ v6, hc _ _ v7, hc _ _ v8, hc _ _ v9, hc _ _ v10, hc _ _ v11, hc _ _ v12, hc _ _ v13, hc _ _ v14, hc _ _ v15, hc _ _ v16⟩
  have HFin : Hid (∀ w' l, St w1 w' l → Below w.heap.size w w') := fun w' l S => bst S1.fin S.fin
  clear hI v0 v1 v2 v3 v4 v5 v6 v7 v8 v9 v10 v11 v12 v13 v14 v15 v16
  have hob : w2.heap[gm]? = some (.map (gEs 0 G).toArray G.length) := S2.obj (g := gm) (o := .map (gEs 0 G).toArray G.length) 0 rfl
  have hrg := run_range_map (P := Try.prog) w2 53 56 26 gm _ _ mapGT hob
  have S3 : St w1 (w2.alloc (.mapIter (some gm) G.length #[] G.length)) (objT w2.heap.size (.mapIter (some gm) G.length #[] G.length) :: gangL gm G) := St.rot (S2.newObj (.mapIter (some gm) G.length #[] G.length))
  go_wp2_with fail
  generalize w2.heap.size = it at *
  generalize w2.alloc _ = w3 at *
  clear hob hrg S2
  go_loopw [] (fun wr => ∃ (seen : Array Nat) (c0 : Nat), G.length ≤ c0 ∧ seenOk s G seen ∧ St w1 wr (objT it (.mapIter (some gm) G.length seen c0) :: gangL gm G)) (fun wr => (leftOf (gEs 0 G).toArray (wr.iterSeen it)).size)
  case atStart => exact ⟨#[], G.length, Nat.le_refl _, fun e he h => by simp at h, S3⟩
  case round =>
    obtain ⟨seen, c0, hc0, hok, Sk⟩ := hrel
    have HOk := hid hok
    have hit := Sk.obj 0 rfl
    have hob : wr.heap[gm]? = some (.map (gEs 0 G).toArray G.length) := Sk.obj (g := gm) (o := .map (gEs 0 G).toArray G.length) 1 rfl
    have hnx := nextAt hit hob (by simpa using gEs_old G) hc0
    have hseen : wr.iterSeen it = seen := by unfold World.iterSeen; rw [hit]
    clear S3 hok
    rcases hnx with ⟨h0, hrun⟩ | ⟨e, he, n, hrun⟩
    · have E : Hid (crowdL s L = false) := by
        rw [Hid, ← HC.out, ← Bool.not_eq_true, List.any_eq_true]
        rintro ⟨x, hx, hcr⟩
        obtain ⟨k, hk, rfl⟩ := List.getElem_of_mem hx
        have hm2 : gEnt (0 + k) G[k] ∈ gEs 0 G := by
          refine List.mem_of_getElem? (i := k) ?_
          rw [gEs_get, List.getElem?_eq_getElem hk]; rfl
        have hall := all_seen _ _ h0 (gEnt (0 + k) G[k]) (by simpa using hm2)
        have := HOk.out _ hm2 hall G[k] hx rfl
        rw [this] at hcr; cases hcr
      clear h0 hit hob HOk
      go_wp2
      go_ret
      exact ⟨by rw [E.out]; rfl, HFin.out _ _ Sk⟩
    · obtain ⟨hem, hes⟩ := mem_left he
      have hem' : e ∈ gEs 0 G := by simpa using hem
      have hsh := left_shrinks _ _ _ he
      obtain ⟨x, hx, hkey, hval, hent⟩ := gEs_mem hem'
      have S4 : St w1 (putO (wr.drewN n) it (.mapIter (some gm) G.length (seen.push e.born) G.length)) (objT it (.mapIter (some gm) G.length (seen.push e.born) G.length) :: gangL gm G) := (Sk.drewN n).putObj 0 rfl _
      have hen := entryAt (S4.obj 0 rfl) (S4.obj (g := gm) (o := .map (gEs 0 G).toArray G.length) 1 rfl) hem (by simpa using gEs_nodup G)
      rw [hkey, hval] at hrun hen
      have hk1 : x.key = .agg #[.int .i64 x.job, .int .i64 x.inc] := rfl
      have hk2 : x.sl = .slice x.a x.L.length x.c := rfl
      rw [hk1, hk2] at hrun hen
      obtain ⟨m, hm2⟩ : ∃ m, x.L.length = m := ⟨_, rfl⟩
      rw [hm2] at hrun hen
      have HM2 := hid hm2
      have HSeen : Hid (crowdE s x = false → seenOk s G (seen.push e.born)) := fun hcx e2 he2 h2 y hy hey => by
        rw [contains_push] at h2
        cases hq : seen.contains e2.born with
        | true => exact HOk.out e2 he2 hq y hy hey
        | false =>
          rw [hq, Bool.false_or] at h2
          have hb : e2.born = e.born := by simpa using h2
          have h3 : e2 = e := by
            have hn2 := gEs_nodup G
            have f1 := find_born e (gEs 0 G) hn2 hem'
            have f2 := find_born e2 (gEs 0 G) hn2 he2
            rw [hb] at f2
            exact (Option.some.inj (f1.symm.trans f2)).symm
          have hxy : x.job = y.job ∧ x.L.length = y.L.length := by
            have hxy2 : gEnt e.born x = gEnt e.born y := by rw [hent, ← hb, hey, h3]
            have q1 := congrArg MapEntry.key hxy2
            have q2 := congrArg MapEntry.val hxy2
            simp only [gEnt, GE.key, GE.sl, Value.agg.injEq, Value.slice.injEq] at q1 q2
            have q3 := congrArg Array.toList q1
            simp at q3
            exact ⟨q3.1, q2.2.1⟩
          unfold crowdE at hcx ⊢
          rw [← hxy.1, ← hxy.2]; exact hcx
      have HYes : Hid (crowdE s x = true → crowdL s L = true) := fun h => by
        rw [← HC.out]; exact List.any_eq_true.2 ⟨x, hx, h⟩
      obtain ⟨wR, hwR⟩ : ∃ wR, putO (wr.drewN n) it (.mapIter (some gm) G.length (seen.push e.born) G.length) = wR := ⟨_, rfl⟩
      rw [hwR] at hrun S4 hen
      have hsh2 : ∀ wz : World, wz.heap[it]? = some (.mapIter (some gm) G.length (seen.push e.born) G.length) → (leftOf (gEs 0 G).toArray (wz.iterSeen it)).size < (leftOf (gEs 0 G).toArray (wr.iterSeen it)).size := fun wz hz => by
        rw [hseen, show wz.iterSeen it = seen.push e.born by unfold World.iterSeen; rw [hz]]
        exact hsh
      have HSh := hid hsh2
      generalize seen.push e.born = seen2 at *
      clear hm2 hk1 hk2 he hem hem' hes hx hkey hval hent hit hob HOk hwR hsh hseen hsh2 Sk
      have S5 : St w1 (wR.alloc (.cells #[.int .i64 x.job, .int .i64 x.inc] 56)) (cellsT wR.heap.size 56 [.int .i64 x.job, .int .i64 x.inc] :: objT it (.mapIter (some gm) G.length seen2 G.length) :: gangL gm G) := (newAtG S4 56 #[.int .i64 x.job, .int .i64 x.inc] _ rfl).rot
      obtain ⟨v0, v1, v2, v3, v4, v5, v6, v7, v8, v9, v10, v11, v12, v13, v14, v15, v16⟩ := HV.out _ _ S5
      go_wp2_with fail
      generalize wR.heap.size = g3 at *
      generalize wR.alloc _ = w5 at *
      clear S4 hrun hen
      refine (wtIs c s la ln lc sv x.job _).mono ?_
      rintro e6 w6 ⟨rfl, hb6⟩
      have S6 := S5.grow hb6
      clear S5 hb6 v0 v1 v2 v3 v4 v5 v6 v7 v8 v9 v10 v11 v12 v13 v14 v15 v16
      cases hi : isJ s x.job
      · have E := hid (HSeen.out (by unfold crowdE; rw [hi]; rfl))
        clear hi HSeen HYes
        go_wp2
        go_roundw
        case rel => exact ⟨seen2, G.length, Nat.le_refl _, E.out, S6.tail⟩
        case measure => exact HSh.out _ (S6.obj 1 rfl)
      have hij := hi
      unfold isJ at hij
      rw [Bool.and_eq_true, decide_eq_true_iff, decide_eq_true_iff] at hij
      obtain ⟨K, hK⟩ : ∃ K : Nat, x.job = K + 1 := ⟨(x.job - 1).toNat, by omega⟩
      have hKn : K < s.jn := by omega
      have hl : K < s.J.length := by rw [HS.out.jn]; exact hKn
      have hjm := HS.out.jm
      unfold maxLen at hjm
      have i0 := fun wx => idxJB s.ja s.jn s.jc (fun h => HS.out.j.ok (by rw [HS.out.jn]; exact h)) K (x.job - 1) (by omega) hKn wx
      have hr : -9223372036854775808 ≤ x.job - 1 ∧ x.job - 1 ≤ 9223372036854775807 := by omega
      have E0 : Hid (crowdE s x = decide (s.J[K].hi < (m : Int))) := by
        rw [Hid, crowdE, hi, maxOf, show (x.job - 1).toNat = K by omega, List.getElem?_eq_getElem hl, HM2.out]; rfl
      have HJ : Hid (∀ w' l, St w1 w' l → JbAt w' (adr s.ja (K * 12)) s.J[K]) := fun w' l S => (HS.out.j.all eJBok (HFin.out _ _ S)).jbAt hl
      generalize s.J[K] = j at *
      generalize adr s.ja (K * 12) = B at *
      obtain ⟨j0, j1, j2, j3, j4, j5, j6, j7, j8, j9, j10, j11⟩ := HJ.out _ _ S6
      obtain ⟨v0, v1, v2, v3, v4, v5, v6, v7, v8, v9, v10, v11, v12, v13, v14, v15, v16⟩ := HV.out _ _ S6
      have z0 := S6.cell 0 rfl 0 rfl
      clear hi hK hl hij HM2
      cases hc : decide (j.hi < (m : Int))
      · have E := hid (HSeen.out (by rw [E0.out, hc]))
        clear E0 HSeen HYes
        go_wp2
        go_roundw
        case rel => exact ⟨seen2, G.length, Nat.le_refl _, E.out, S6.tail⟩
        case measure => exact HSh.out _ (S6.obj 1 rfl)
      · have E := hid (HYes.out (by rw [E0.out, hc]))
        clear E0 HSeen HYes
        go_wp2
        go_ret
        exact ⟨by rw [E.out]; rfl, HFin.out _ _ S6⟩
end Go.Proofs.Ytilobmefomoemaa
