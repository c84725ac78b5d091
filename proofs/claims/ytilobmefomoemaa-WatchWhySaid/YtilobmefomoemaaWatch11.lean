/- Watch: Why. -/
import Derived.Test.YtilobmefomoemaaWatch9
import Derived.Test.YtilobmefomoemaaWatch10
import Derived.Laws.EntriesVeiled
namespace Go.Proofs.Ytilobmefomoemaa
set_option linter.unusedVariables false
set_option linter.unusedSimpArgs false
open Go.RowKit
def faultB (s : STA) (L : List AG) (o : Option SS) (rb : Bool) : Nat → Bool
  | 0 => L.any (strayA s)
  | 1 => crowdL s L
  | 2 => L.any (wrongA s)
  | 3 => mixL L
  | 4 => lostK s o s.jn
  | _ => !rb
def whyN (s : STA) (L : List AG) (o : Option SS) (rb : Bool) : Int :=
  if faultB s L o rb 0 = true then 1 else if faultB s L o rb 1 = true then 2 else if faultB s L o rb 2 = true then 3 else if faultB s L o rb 3 = true then 4 else if faultB s L o rb 4 = true then 5 else if faultB s L o rb 5 = true then 6 else 0
theorem whyN_at {s : STA} {L : List AG} {o : Option SS} {rb : Bool} {k : Nat} (hk : k < 6) (h0 : ∀ q, q < k → faultB s L o rb q = false) (h1 : faultB s L o rb k = true) : whyN s L o rb = (k : Int) + 1 := by
  unfold whyN
  rcases (show k = 0 ∨ k = 1 ∨ k = 2 ∨ k = 3 ∨ k = 4 ∨ k = 5 by omega) with rfl | rfl | rfl | rfl | rfl | rfl
  · rw [if_pos h1]; rfl
  · rw [h0 0 (by omega), if_neg (by simp), if_pos h1]; rfl
  · rw [h0 0 (by omega), h0 1 (by omega), if_neg (by simp), if_neg (by simp), if_pos h1]; rfl
  · rw [h0 0 (by omega), h0 1 (by omega), h0 2 (by omega), if_neg (by simp), if_neg (by simp), if_neg (by simp), if_pos h1]; rfl
  · rw [h0 0 (by omega), h0 1 (by omega), h0 2 (by omega), h0 3 (by omega), if_neg (by simp), if_neg (by simp), if_neg (by simp), if_neg (by simp), if_pos h1]; rfl
  · rw [h0 0 (by omega), h0 1 (by omega), h0 2 (by omega), h0 3 (by omega), h0 4 (by omega), if_neg (by simp), if_neg (by simp), if_neg (by simp), if_neg (by simp), if_neg (by simp), if_pos h1]; rfl
theorem whyN_none {s : STA} {L : List AG} {o : Option SS} {rb : Bool} (h0 : ∀ q, q < 6 → faultB s L o rb q = false) : whyN s L o rb = 0 := by
  unfold whyN
  rw [h0 0 (by omega), h0 1 (by omega), h0 2 (by omega), h0 3 (by omega), h0 4 (by omega), h0 5 (by omega)]
  simp
set_option maxRecDepth 10000 in
set_option maxHeartbeats 3200000 in
theorem wtNotRight (c : CF) (s : STA) (la : Option Addr) (ln lc : Nat) (sv : Value) (rb : Bool) (w : World) (HR : ∀ w', Below w.heap.size w w' → Calls Try.prog 15 #[.agg #[.int .i64 c.nodes, .int .i64 c.queues, .int .i64 c.quota, .int .i64 c.wave, .int .i64 c.lease, .int .i64 c.retry, .int .i64 c.deadline, .int .i64 c.room, .int .i64 c.disk], .agg #[.slice s.na s.nn s.nc, .slice s.ja s.jn s.jc, .int .i64 s.goal, .int .i64 s.prior, .int .i64 s.mode, .int .i64 s.term]] w' fun e w'' => e = .returned (.bool rb) ∧ Below w'.heap.size w' w'') :
    Calls Try.prog 42 #[.agg #[.int .i64 c.nodes, .int .i64 c.queues, .int .i64 c.quota, .int .i64 c.wave, .int .i64 c.lease, .int .i64 c.retry, .int .i64 c.deadline, .int .i64 c.room, .int .i64 c.disk, .slice s.na s.nn s.nc, .slice s.ja s.jn s.jc, .int .i64 s.goal, .int .i64 s.prior, .int .i64 s.mode, .int .i64 s.term, .slice la ln lc, sv]] w fun e w' => e = .returned (.bool (!rb)) ∧ Below w.heap.size w w' := by
  have S1 : St w _ [cellsT w.heap.size 77 (#[.int .i64 c.nodes, .int .i64 c.queues, .int .i64 c.quota, .int .i64 c.wave, .int .i64 c.lease, .int .i64 c.retry, .int .i64 c.deadline, .int .i64 c.room, .int .i64 c.disk, .slice s.na s.nn s.nc, .slice s.ja s.jn s.jc, .int .i64 s.goal, .int .i64 s.prior, .int .i64 s.mode, .int .i64 s.term, .slice la ln lc, sv] : Array Value).toList] := (St.start w).newAt 77 #[.int .i64 c.nodes, .int .i64 c.queues, .int .i64 c.quota, .int .i64 c.wave, .int .i64 c.lease, .int .i64 c.retry, .int .i64 c.deadline, .int .i64 c.room, .int .i64 c.disk, .slice s.na s.nn s.nc, .slice s.ja s.jn s.jc, .int .i64 s.goal, .int .i64 s.prior, .int .i64 s.mode, .int .i64 s.term, .slice la ln lc, sv] w.heap.size rfl
  have HRr := HR _ S1.fin
  clear HR
  go_enter Try.func42, Try.ntmps42
  go_wp2_with fail
  refine HRr.mono ?_
  rintro e w2 ⟨rfl, hb2⟩
  have S2 := S1.grow hb2
  go_wp2
  go_ret
  exact ⟨rfl, S2.fin⟩
section
variable {w0 w : World} {r : List Thing} {k : Nat} {sv : Value} {o : Option SS}
set_option maxRecDepth 10000 in
set_option maxHeartbeats 12800000 in
theorem wtWhy (S : St w0 w r) (hk : r[k]? = some (soT sv o)) (c : CF) (s : STA) (la : Option Addr) (ln lc : Nat) (L : List AG) (rb : Bool) (hs : s.At w) (hn : L.length = ln) (hm : ln ≤ 1000000) (hA : AtG eAG w la L) (HR : ∀ w', Below w.heap.size w w' → Calls Try.prog 15 #[.agg #[.int .i64 c.nodes, .int .i64 c.queues, .int .i64 c.quota, .int .i64 c.wave, .int .i64 c.lease, .int .i64 c.retry, .int .i64 c.deadline, .int .i64 c.room, .int .i64 c.disk], .agg #[.slice s.na s.nn s.nc, .slice s.ja s.jn s.jc, .int .i64 s.goal, .int .i64 s.prior, .int .i64 s.mode, .int .i64 s.term]] w' fun e w'' => e = .returned (.bool rb) ∧ Below w'.heap.size w' w'') :
    Calls Try.prog 16 #[.agg #[.int .i64 c.nodes, .int .i64 c.queues, .int .i64 c.quota, .int .i64 c.wave, .int .i64 c.lease, .int .i64 c.retry, .int .i64 c.deadline, .int .i64 c.room, .int .i64 c.disk], .agg #[.slice s.na s.nn s.nc, .slice s.ja s.jn s.jc, .int .i64 s.goal, .int .i64 s.prior, .int .i64 s.mode, .int .i64 s.term], .slice la ln lc, sv] w fun e w' => e = .returned (.int .i64 (whyN s L o rb)) ∧ Below w.heap.size w w' := by
  obtain ⟨p, rfl⟩ : ∃ p, sv = .pointer p := by
    cases o with
    | none => exact ⟨none, S.soNil k hk⟩
    | some s => obtain ⟨g, e, _⟩ := S.soSome k hk; exact ⟨_, e⟩
  have HS := hid hs
  have HK := hid hk
  have HN := hid hn
  have HA := hid hA
  have HRh := hid HR
  have S3 : ∀ o4, St w ((((w.alloc (.cells #[.int .i64 c.nodes, .int .i64 c.queues, .int .i64 c.quota, .int .i64 c.wave, .int .i64 c.lease, .int .i64 c.retry, .int .i64 c.deadline, .int .i64 c.room, .int .i64 c.disk] 38)).alloc (.cells #[.slice s.na s.nn s.nc, .slice s.ja s.jn s.jc, .int .i64 s.goal, .int .i64 s.prior, .int .i64 s.mode, .int .i64 s.term] 25)).alloc (.cells #[.int .i64 c.nodes, .int .i64 c.queues, .int .i64 c.quota, .int .i64 c.wave, .int .i64 c.lease, .int .i64 c.retry, .int .i64 c.deadline, .int .i64 c.room, .int .i64 c.disk, .slice s.na s.nn s.nc, .slice s.ja s.jn s.jc, .int .i64 s.goal, .int .i64 s.prior, .int .i64 s.mode, .int .i64 s.term, .slice la ln lc, .pointer p] 77)).alloc o4) [cellsT (w.heap.size + 1 + 1) 77 (#[.int .i64 c.nodes, .int .i64 c.queues, .int .i64 c.quota, .int .i64 c.wave, .int .i64 c.lease, .int .i64 c.retry, .int .i64 c.deadline, .int .i64 c.room, .int .i64 c.disk, .slice s.na s.nn s.nc, .slice s.ja s.jn s.jc, .int .i64 s.goal, .int .i64 s.prior, .int .i64 s.mode, .int .i64 s.term, .slice la ln lc, .pointer p] : Array Value).toList] := fun o4 => ((((St.start w).alloc (.cells #[.int .i64 c.nodes, .int .i64 c.queues, .int .i64 c.quota, .int .i64 c.wave, .int .i64 c.lease, .int .i64 c.retry, .int .i64 c.deadline, .int .i64 c.room, .int .i64 c.disk] 38)).alloc (.cells #[.slice s.na s.nn s.nc, .slice s.ja s.jn s.jc, .int .i64 s.goal, .int .i64 s.prior, .int .i64 s.mode, .int .i64 s.term] 25)).newAt 77 #[.int .i64 c.nodes, .int .i64 c.queues, .int .i64 c.quota, .int .i64 c.wave, .int .i64 c.lease, .int .i64 c.retry, .int .i64 c.deadline, .int .i64 c.room, .int .i64 c.disk, .slice s.na s.nn s.nc, .slice s.ja s.jn s.jc, .int .i64 s.goal, .int .i64 s.prior, .int .i64 s.mode, .int .i64 s.term, .slice la ln lc, .pointer p] (w.heap.size + 1 + 1) (by simp only [alloc_size])).alloc o4
  clear hs hk hn hA HR
  go_enter Try.func16, Try.ntmps16
  go_wp2_with fail
  generalize w.heap.size + 1 + 1 = g9 at *
  generalize w.heap.size + 1 + 1 + 1 = g10 at *
  go_loopw [26] (fun i wr => ∃ q : Nat, q ≤ 6 ∧ i = .int .i64 q ∧ (∀ z, z < q → faultB s L o rb z = false) ∧ St w wr [cellsT g9 77 (#[.int .i64 c.nodes, .int .i64 c.queues, .int .i64 c.quota, .int .i64 c.wave, .int .i64 c.lease, .int .i64 c.retry, .int .i64 c.deadline, .int .i64 c.room, .int .i64 c.disk, .slice s.na s.nn s.nc, .slice s.ja s.jn s.jc, .int .i64 s.goal, .int .i64 s.prior, .int .i64 s.mode, .int .i64 s.term, .slice la ln lc, .pointer p] : Array Value).toList]) (fun i _ => 6 - (intOf i).toNat)
  case atStart => exact ⟨0, by decide, rfl, fun z hz => by omega, S3 _⟩
  case round =>
    obtain ⟨q, hq, rfl, hno, Sk⟩ := hrel
    have HNo := hid hno
    clear S3 hno
    rcases (show q = 0 ∨ q = 1 ∨ q = 2 ∨ q = 3 ∨ q = 4 ∨ q = 5 ∨ q = 6 by omega) with rfl | rfl | rfl | rfl | rfl | rfl | rfl
    · as_aux_lemma =>
        have S4 : St w (wr.alloc (.cells #[.func (.func 34) #[] #[]] 81)) _ := Sk.alloc _
        have ix : ∀ wx, (Instr.index 82 (.agg #[.func (.func 34) #[] #[], .func (.func 37) #[] #[], .func (.func 38) #[] #[], .func (.func 40) #[] #[], .func (.func 41) #[] #[], .func (.func 42) #[] #[]]) (.int .i64 0)).run Try.prog wx = .ok (.agg #[.func (.func 34) #[] #[]]) wx := fun _ => by kernel_rfl
        obtain ⟨v0, v1, v2, v3, v4, v5, v6, v7, v8, v9, v10, v11, v12, v13, v14, v15, v16⟩ := S4.vwC 0 rfl
        go_wp2_with fail
        generalize wr.alloc _ = w4 at *
        refine (wtFaultStray c s la ln lc (.pointer p) L _ HN.out hm (HA.out.all eAGok S4.fin) (HS.out.all S4.fin)).mono ?_
        rintro e w5 ⟨rfl, hb5⟩
        have S5 := S4.grow hb5
        clear S4 Sk hb5 v0 v1 v2 v3 v4 v5 v6 v7 v8 v9 v10 v11 v12 v13 v14 v15 v16
        obtain ⟨fb, hfb⟩ : ∃ fb, L.any (strayA s) = fb := ⟨_, rfl⟩
        rw [hfb]
        have HFB : Hid (faultB s L o rb 0 = fb) := hfb
        clear hfb
        cases fb
        · have HN2 : Hid (∀ z, z < 0 + 1 → faultB s L o rb z = false) := fun z hz => by
            by_cases e : z < 0
            · exact HNo.out z e
            · obtain rfl : z = 0 := by omega
              exact HFB.out
          clear HNo HFB
          go_wp2
          go_roundw
          case rel => exact ⟨0 + 1, by decide, rfl, HN2.out, S5⟩
          case measure => simp [intOf]
        · have E : Hid (whyN s L o rb = (0 : Nat) + 1) := whyN_at (k := 0) (by decide) HNo.out HFB.out
          clear HNo HFB
          go_wp2
          go_ret
          exact ⟨by rw [E.out]; rfl, S5.fin⟩
    · as_aux_lemma =>
        have S4 : St w (wr.alloc (.cells #[.func (.func 37) #[] #[]] 81)) _ := Sk.alloc _
        have ix : ∀ wx, (Instr.index 82 (.agg #[.func (.func 34) #[] #[], .func (.func 37) #[] #[], .func (.func 38) #[] #[], .func (.func 40) #[] #[], .func (.func 41) #[] #[], .func (.func 42) #[] #[]]) (.int .i64 1)).run Try.prog wx = .ok (.agg #[.func (.func 37) #[] #[]]) wx := fun _ => by kernel_rfl
        obtain ⟨v0, v1, v2, v3, v4, v5, v6, v7, v8, v9, v10, v11, v12, v13, v14, v15, v16⟩ := S4.vwC 0 rfl
        go_wp2_with fail
        generalize wr.alloc _ = w4 at *
        refine (wtCrowded c s la ln lc (.pointer p) L _ HN.out hm (HA.out.all eAGok S4.fin) (HS.out.all S4.fin)).mono ?_
        rintro e w5 ⟨rfl, hb5⟩
        have S5 := S4.grow hb5
        clear S4 Sk hb5 v0 v1 v2 v3 v4 v5 v6 v7 v8 v9 v10 v11 v12 v13 v14 v15 v16
        obtain ⟨fb, hfb⟩ : ∃ fb, crowdL s L = fb := ⟨_, rfl⟩
        rw [hfb]
        have HFB : Hid (faultB s L o rb 1 = fb) := hfb
        clear hfb
        cases fb
        · have HN2 : Hid (∀ z, z < 1 + 1 → faultB s L o rb z = false) := fun z hz => by
            by_cases e : z < 1
            · exact HNo.out z e
            · obtain rfl : z = 1 := by omega
              exact HFB.out
          clear HNo HFB
          go_wp2
          go_roundw
          case rel => exact ⟨1 + 1, by decide, rfl, HN2.out, S5⟩
          case measure => simp [intOf]
        · have E : Hid (whyN s L o rb = (1 : Nat) + 1) := whyN_at (k := 1) (by decide) HNo.out HFB.out
          clear HNo HFB
          go_wp2
          go_ret
          exact ⟨by rw [E.out]; rfl, S5.fin⟩
    · as_aux_lemma =>
        have S4 : St w (wr.alloc (.cells #[.func (.func 38) #[] #[]] 81)) _ := Sk.alloc _
        have ix : ∀ wx, (Instr.index 82 (.agg #[.func (.func 34) #[] #[], .func (.func 37) #[] #[], .func (.func 38) #[] #[], .func (.func 40) #[] #[], .func (.func 41) #[] #[], .func (.func 42) #[] #[]]) (.int .i64 2)).run Try.prog wx = .ok (.agg #[.func (.func 38) #[] #[]]) wx := fun _ => by kernel_rfl
        obtain ⟨v0, v1, v2, v3, v4, v5, v6, v7, v8, v9, v10, v11, v12, v13, v14, v15, v16⟩ := S4.vwC 0 rfl
        go_wp2_with fail
        generalize wr.alloc _ = w4 at *
        refine (wtFaultWrong c s la ln lc (.pointer p) L _ HN.out hm (HA.out.all eAGok S4.fin) (HS.out.all S4.fin)).mono ?_
        rintro e w5 ⟨rfl, hb5⟩
        have S5 := S4.grow hb5
        clear S4 Sk hb5 v0 v1 v2 v3 v4 v5 v6 v7 v8 v9 v10 v11 v12 v13 v14 v15 v16
        obtain ⟨fb, hfb⟩ : ∃ fb, L.any (wrongA s) = fb := ⟨_, rfl⟩
        rw [hfb]
        have HFB : Hid (faultB s L o rb 2 = fb) := hfb
        clear hfb
        cases fb
        · have HN2 : Hid (∀ z, z < 2 + 1 → faultB s L o rb z = false) := fun z hz => by
            by_cases e : z < 2
            · exact HNo.out z e
            · obtain rfl : z = 2 := by omega
              exact HFB.out
          clear HNo HFB
          go_wp2
          go_roundw
          case rel => exact ⟨2 + 1, by decide, rfl, HN2.out, S5⟩
          case measure => simp [intOf]
        · have E : Hid (whyN s L o rb = (2 : Nat) + 1) := whyN_at (k := 2) (by decide) HNo.out HFB.out
          clear HNo HFB
          go_wp2
          go_ret
          exact ⟨by rw [E.out]; rfl, S5.fin⟩
    · as_aux_lemma =>
        have S4 : St w (wr.alloc (.cells #[.func (.func 40) #[] #[]] 81)) _ := Sk.alloc _
        have ix : ∀ wx, (Instr.index 82 (.agg #[.func (.func 34) #[] #[], .func (.func 37) #[] #[], .func (.func 38) #[] #[], .func (.func 40) #[] #[], .func (.func 41) #[] #[], .func (.func 42) #[] #[]]) (.int .i64 3)).run Try.prog wx = .ok (.agg #[.func (.func 40) #[] #[]]) wx := fun _ => by kernel_rfl
        obtain ⟨v0, v1, v2, v3, v4, v5, v6, v7, v8, v9, v10, v11, v12, v13, v14, v15, v16⟩ := S4.vwC 0 rfl
        go_wp2_with fail
        generalize wr.alloc _ = w4 at *
        refine (wtMixed c s la ln lc (.pointer p) L _ HN.out hm (HA.out.all eAGok S4.fin)).mono ?_
        rintro e w5 ⟨rfl, hb5⟩
        have S5 := S4.grow hb5
        clear S4 Sk hb5 v0 v1 v2 v3 v4 v5 v6 v7 v8 v9 v10 v11 v12 v13 v14 v15 v16
        obtain ⟨fb, hfb⟩ : ∃ fb, mixL L = fb := ⟨_, rfl⟩
        rw [hfb]
        have HFB : Hid (faultB s L o rb 3 = fb) := hfb
        clear hfb
        cases fb
        · have HN2 : Hid (∀ z, z < 3 + 1 → faultB s L o rb z = false) := fun z hz => by
            by_cases e : z < 3
            · exact HNo.out z e
            · obtain rfl : z = 3 := by omega
              exact HFB.out
          clear HNo HFB
          go_wp2
          go_roundw
          case rel => exact ⟨3 + 1, by decide, rfl, HN2.out, S5⟩
          case measure => simp [intOf]
        · have E : Hid (whyN s L o rb = (3 : Nat) + 1) := whyN_at (k := 3) (by decide) HNo.out HFB.out
          clear HNo HFB
          go_wp2
          go_ret
          exact ⟨by rw [E.out]; rfl, S5.fin⟩
    · as_aux_lemma =>
        have S4 : St w (wr.alloc (.cells #[.func (.func 41) #[] #[]] 81)) _ := Sk.alloc _
        have ix : ∀ wx, (Instr.index 82 (.agg #[.func (.func 34) #[] #[], .func (.func 37) #[] #[], .func (.func 38) #[] #[], .func (.func 40) #[] #[], .func (.func 41) #[] #[], .func (.func 42) #[] #[]]) (.int .i64 4)).run Try.prog wx = .ok (.agg #[.func (.func 41) #[] #[]]) wx := fun _ => by kernel_rfl
        obtain ⟨v0, v1, v2, v3, v4, v5, v6, v7, v8, v9, v10, v11, v12, v13, v14, v15, v16⟩ := S4.vwC 0 rfl
        go_wp2_with fail
        generalize wr.alloc _ = w4 at *
        refine (wtLost (S.grow S4.fin) HK.out c s la ln lc (HS.out.all S4.fin)).mono ?_
        rintro e w5 ⟨rfl, hb5⟩
        have S5 := S4.grow hb5
        clear S4 Sk hb5 v0 v1 v2 v3 v4 v5 v6 v7 v8 v9 v10 v11 v12 v13 v14 v15 v16
        obtain ⟨fb, hfb⟩ : ∃ fb, lostK s o s.jn = fb := ⟨_, rfl⟩
        rw [hfb]
        have HFB : Hid (faultB s L o rb 4 = fb) := hfb
        clear hfb
        cases fb
        · have HN2 : Hid (∀ z, z < 4 + 1 → faultB s L o rb z = false) := fun z hz => by
            by_cases e : z < 4
            · exact HNo.out z e
            · obtain rfl : z = 4 := by omega
              exact HFB.out
          clear HNo HFB
          go_wp2
          go_roundw
          case rel => exact ⟨4 + 1, by decide, rfl, HN2.out, S5⟩
          case measure => simp [intOf]
        · have E : Hid (whyN s L o rb = (4 : Nat) + 1) := whyN_at (k := 4) (by decide) HNo.out HFB.out
          clear HNo HFB
          go_wp2
          go_ret
          exact ⟨by rw [E.out]; rfl, S5.fin⟩
    · as_aux_lemma =>
        have S4 : St w (wr.alloc (.cells #[.func (.func 42) #[] #[]] 81)) _ := Sk.alloc _
        have ix : ∀ wx, (Instr.index 82 (.agg #[.func (.func 34) #[] #[], .func (.func 37) #[] #[], .func (.func 38) #[] #[], .func (.func 40) #[] #[], .func (.func 41) #[] #[], .func (.func 42) #[] #[]]) (.int .i64 5)).run Try.prog wx = .ok (.agg #[.func (.func 42) #[] #[]]) wx := fun _ => by kernel_rfl
        obtain ⟨v0, v1, v2, v3, v4, v5, v6, v7, v8, v9, v10, v11, v12, v13, v14, v15, v16⟩ := S4.vwC 0 rfl
        go_wp2_with fail
        generalize wr.alloc _ = w4 at *
        refine (wtNotRight c s la ln lc (.pointer p) rb _ (fun w' hb => HRh.out w' (bst S4.fin hb))).mono ?_
        rintro e w5 ⟨rfl, hb5⟩
        have S5 := S4.grow hb5
        clear S4 Sk hb5 v0 v1 v2 v3 v4 v5 v6 v7 v8 v9 v10 v11 v12 v13 v14 v15 v16
        obtain ⟨fb, hfb⟩ : ∃ fb, (!rb) = fb := ⟨_, rfl⟩
        rw [hfb]
        have HFB : Hid (faultB s L o rb 5 = fb) := hfb
        clear hfb
        cases fb
        · have HN2 : Hid (∀ z, z < 5 + 1 → faultB s L o rb z = false) := fun z hz => by
            by_cases e : z < 5
            · exact HNo.out z e
            · obtain rfl : z = 5 := by omega
              exact HFB.out
          clear HNo HFB
          go_wp2
          go_roundw
          case rel => exact ⟨5 + 1, by decide, rfl, HN2.out, S5⟩
          case measure => simp [intOf]
        · have E : Hid (whyN s L o rb = (5 : Nat) + 1) := whyN_at (k := 5) (by decide) HNo.out HFB.out
          clear HNo HFB
          go_wp2
          go_ret
          exact ⟨by rw [E.out]; rfl, S5.fin⟩
    · have E : Hid (whyN s L o rb = 0) := whyN_none HNo.out
      clear HNo
      go_wp2
      go_ret
      exact ⟨by rw [E.out]; rfl, Sk.fin⟩
end
end Go.Proofs.Ytilobmefomoemaa
