/- book.Right as an explicit value. -/
import Derived.Test.YtjfbmgndekfglaaDoorRightB3
namespace Go.Proofs.YtjfbmgndekfglaaDoor
set_option linter.unusedVariables false
set_option linter.unusedSimpArgs false
open Go.RowKit
def drK (s : STA) (queue : Int) : Nat → Nat
  | 0 => 0
  | k + 1 => drK s queue k + (match s.J[k]? with | some j => if ((j.queue == queue) && (j.phase == 3)) = true then 1 else 0 | none => 0)
theorem drK_le (s : STA) (queue : Int) : ∀ k, drK s queue k ≤ k
  | 0 => Nat.le_refl _
  | k + 1 => by
    have := drK_le s queue k
    rw [drK]
    cases s.J[k]? with
    | none => simp; omega
    | some j => by_cases h : ((j.queue == queue) && (j.phase == 3)) = true <;> simp only [h, if_true, if_false, Bool.false_eq_true] <;> omega
set_option maxRecDepth 10000 in
set_option maxHeartbeats 3200000 in
theorem bxDrains (w : World) (s : STA) (queue : Int) (hs : s.At w) (hn : s.jn ≤ 1000000) :
    Calls Tryd.prog 21 #[.agg #[.slice s.na s.nn s.nc, .slice s.ja s.jn s.jc, .int .i64 s.goal, .int .i64 s.prior, .int .i64 s.mode, .int .i64 s.term], .int .i64 queue] w fun e w' => e = .returned (.int .i64 (drK s queue s.jn : Int)) ∧ Below w.heap.size w w' := by
  have S1 : St w _ [cellsT w.heap.size 27 s.cs] := (St.start w).newAt 27 #[.slice s.na s.nn s.nc, .slice s.ja s.jn s.jc, .int .i64 s.goal, .int .i64 s.prior, .int .i64 s.mode, .int .i64 s.term] w.heap.size rfl
  have HS := hid hs
  clear hs
  go_enter Tryd.func21, Tryd.ntmps21
  go_wp2_with fail
  generalize w.alloc _ = w1 at *
  have S3 := S1.take 0
  clear S1
  go_loopw [5, 11] (fun v i wr => ∃ (k : Nat), k ≤ s.jn ∧ v = .int .i64 (drK s queue k : Int) ∧ i = .int .i64 k ∧ St w wr []) (fun _ i _ => s.jn - (intOf i).toNat)
  case atStart => exact ⟨0, Nat.zero_le _, rfl, rfl, S3⟩
  case round =>
    obtain ⟨k, hk, rfl, rfl, Sk⟩ := hrel
    have hdl := drK_le s queue k
    clear S3
    by_cases hlt : k < s.jn
    case neg =>
      have g0 : decide ((k : Int) < (s.jn : Int)) = false := decide_eq_false (by omega)
      have g0n : decide (k < s.jn) = false := decide_eq_false (by omega)
      have E : Hid (drK s queue s.jn = drK s queue k) := by rw [Hid, show s.jn = k by omega]
      clear hlt hk
      go_wp2
      go_ret
      exact ⟨by rw [E.out]; rfl, Sk.fin⟩
    have g0 : decide ((k : Int) < (s.jn : Int)) = true := decide_eq_true (by omega)
    have g0n : decide (k < s.jn) = true := decide_eq_true (by omega)
    have hkl : k < s.J.length := by rw [HS.out.jn]; exact hlt
    have i0 := fun wx => idxJB s.ja s.jn s.jc (fun h => HS.out.j.ok (by rw [HS.out.jn]; exact h)) k k rfl hlt wx
    have HX : Hid (∀ w', Below w.heap.size w w' → JbAt w' (adr s.ja (k * 12)) s.J[k]) := fun w' hb => (HS.out.j.all eJBok hb).jbAt hkl
    have HC : Hid (drK s queue (k + 1) = drK s queue k + if ((s.J[k].queue == queue) && (s.J[k].phase == 3)) = true then 1 else 0) := by rw [Hid, drK, List.getElem?_eq_getElem hkl]
    generalize s.J[k] = j at *
    generalize adr s.ja (k * 12) = A at *
    generalize drK s queue k = m at *
    obtain ⟨x0, x1, x2, x3, x4, x5, x6, x7, x8, x9, x10, x11⟩ := HX.out _ Sk.fin
    cases b1 : (j.queue == queue)
    · have E : Hid (drK s queue (k + 1) = m) := by rw [Hid, HC.out, b1]; rfl
      clear HC HX
      go_wp2
      go_roundw
      case rel => exact ⟨k + 1, by omega, by rw [E.out], by go_num, Sk.alloc _⟩
      case measure => simp [intOf]; omega
    · cases b2 : (j.phase == 3)
      · have E : Hid (drK s queue (k + 1) = m) := by rw [Hid, HC.out, b1, b2]; rfl
        clear HC HX
        go_wp2
        go_roundw
        case rel => exact ⟨k + 1, by omega, by rw [E.out], by go_num, Sk.alloc _⟩
        case measure => simp [intOf]; omega
      · have E : Hid (drK s queue (k + 1) = m + 1) := by rw [Hid, HC.out, b1, b2]; rfl
        clear HC HX
        go_wp2
        go_roundw
        case rel => exact ⟨k + 1, by omega, by rw [E.out]; go_num, by go_num, Sk.alloc _⟩
        case measure => simp [intOf]; omega
def standsK (c : CF) (s : STA) : Nat → Bool
  | 0 => true
  | k + 1 => standsK c s k && (match s.J[k]? with | some j => standsB c s j ((k : Int) + 1) | none => true)
def soundK (s : STA) : Nat → Bool
  | 0 => true
  | k + 1 => soundK s k && (match s.N[k]? with | some x => soundB s x k | none => true)
def quotaK (c : CF) (s : STA) : Nat → Bool
  | 0 => true
  | k + 1 => quotaK c s k && !decide (c.quota < (drK s k s.jn : Int))
theorem upNo {f : Nat → Bool} (hf : ∀ n, f n = false → f (n + 1) = false) {k : Nat} (h : f k = false) : ∀ n, k ≤ n → f n = false
  | 0, hn => by obtain rfl : k = 0 := by omega
                exact h
  | n + 1, hn => by
    by_cases e : k = n + 1
    · subst e; exact h
    · exact hf n (upNo hf h n (by omega))
theorem standsK_no {c : CF} {s : STA} {k : Nat} (h : standsK c s k = false) : ∀ n, k ≤ n → standsK c s n = false := upNo (fun n h => by rw [standsK, h]; rfl) h
theorem soundK_no {s : STA} {k : Nat} (h : soundK s k = false) : ∀ n, k ≤ n → soundK s n = false := upNo (fun n h => by rw [soundK, h]; rfl) h
theorem quotaK_no {c : CF} {s : STA} {k : Nat} (h : quotaK c s k = false) : ∀ n, k ≤ n → quotaK c s n = false := upNo (fun n h => by rw [quotaK, h]; rfl) h
theorem standsK_at {c : CF} {s : STA} {n : Nat} (h : standsK c s n = true) (i : Nat) (hi : i < s.J.length) (hin : i < n) : standsB c s s.J[i] ((i : Int) + 1) = true := by
  cases h1 : standsK c s (i + 1) with
  | false => rw [standsK_no h1 n (by omega)] at h; cases h
  | true =>
    rw [standsK, Bool.and_eq_true, List.getElem?_eq_getElem hi] at h1
    exact h1.2
theorem mayB_ok {c : CF} (h : mayB c = true) : c.Ok := by
  unfold mayB at h
  simp only [Bool.and_eq_true] at h
  exact ⟨inR_yes h.1, inR_yes h.2.1, inR_yes h.2.2.1, inR_yes h.2.2.2.1, inR_yes h.2.2.2.2.1, inR_yes h.2.2.2.2.2.1, inR_yes h.2.2.2.2.2.2.1, inR_yes h.2.2.2.2.2.2.2.1, inR_yes h.2.2.2.2.2.2.2.2⟩
def rightB (c : CF) (s : STA) : Bool := mayB c && (((s.nn : Int) == c.nodes) && (decide (s.jn ≤ 24) && (inR s.goal 1 9 && (inR s.prior 1 9 && (inR s.mode 0 2 && (inR s.term 0 1000000 && (standsK c s s.jn && (soundK s s.nn && quotaK c s c.queues.toNat))))))))
set_option maxRecDepth 10000 in
set_option maxHeartbeats 6400000 in
theorem bxRight (w : World) (c : CF) (s : STA) (hs : s.At w) :
    Calls Tryd.prog 6 #[.agg #[.int .i64 c.nodes, .int .i64 c.queues, .int .i64 c.quota, .int .i64 c.wave, .int .i64 c.lease, .int .i64 c.retry, .int .i64 c.deadline, .int .i64 c.room, .int .i64 c.disk], .agg #[.slice s.na s.nn s.nc, .slice s.ja s.jn s.jc, .int .i64 s.goal, .int .i64 s.prior, .int .i64 s.mode, .int .i64 s.term]] w fun e w' => e = .returned (.bool (rightB c s)) ∧ Below w.heap.size w w' := by
  have S1 : St w _ [cellsT w.heap.size 23 c.cs, cellsT (w.heap.size + 1) 27 s.cs] := ((St.start w).newAt 23 #[.int .i64 c.nodes, .int .i64 c.queues, .int .i64 c.quota, .int .i64 c.wave, .int .i64 c.lease, .int .i64 c.retry, .int .i64 c.deadline, .int .i64 c.room, .int .i64 c.disk] w.heap.size rfl).newAt 27 #[.slice s.na s.nn s.nc, .slice s.ja s.jn s.jc, .int .i64 s.goal, .int .i64 s.prior, .int .i64 s.mode, .int .i64 s.term] (w.heap.size + 1) (alloc_size _ _)
  have HS := hid hs
  clear hs
  go_enter Tryd.func6, Tryd.ntmps6
  go_wp2_with fail
  generalize w.heap.size + 1 = g3 at *
  generalize w.heap.size = g2 at *
  generalize (w.alloc _).alloc _ = w1 at *
  refine (bxMay c _).mono ?_
  rintro e w2 ⟨rfl, hb2⟩
  have S2 := S1.grow hb2
  clear S1 hb2
  cases hqm : mayB c
  · have E : Hid (rightB c s = false) := by rw [Hid, rightB, hqm]; rfl
    clear hqm
    go_wp2
    go_ret
    exact ⟨by rw [E.out]; rfl, S2.fin⟩
  have QC := hid (mayB_ok hqm)
  have HQM := hid hqm
  clear hqm
  obtain ⟨y0, y1, y2, y3, y4, y5⟩ := S2.sC 1 rfl
  obtain ⟨x0, x1, x2, x3, x4, x5, x6, x7, x8⟩ := S2.cfC 0 rfl
  by_cases hnn : (s.nn : Int) = c.nodes
  case neg =>
    have g0 : ((s.nn : Int) != c.nodes) = true := by simpa using hnn
    have E : Hid (rightB c s = false) := by rw [Hid, rightB, HQM.out, show ((s.nn : Int) == c.nodes) = false by simpa using hnn]; rfl
    clear hnn
    go_wp2
    go_ret
    exact ⟨by rw [E.out]; rfl, S2.fin⟩
  have g0 : ((s.nn : Int) != c.nodes) = false := by simpa using hnn
  have QN := hid hnn
  have HQN : Hid (((s.nn : Int) == c.nodes) = true) := by rw [Hid]; simpa using hnn
  have h6 : s.nn ≤ 6 := by have := QC.out.nodes; omega
  clear hnn
  by_cases hjn : s.jn ≤ 24
  case neg =>
    have g1 : decide (24 < (s.jn : Int)) = true := decide_eq_true (by omega)
    have g1n : decide (24 < s.jn) = true := decide_eq_true (by omega)
    have E : Hid (rightB c s = false) := by rw [Hid, rightB, HQM.out, HQN.out, decide_eq_false hjn]; rfl
    clear hjn
    go_wp2
    go_ret
    exact ⟨by rw [E.out]; rfl, S2.fin⟩
  have g1 : decide (24 < (s.jn : Int)) = false := decide_eq_false (by omega)
  have g1n : decide (24 < s.jn) = false := decide_eq_false (by omega)
  have HQJ : Hid (decide (s.jn ≤ 24) = true) := decide_eq_true hjn
  go_wp2_with fail
  refine (bkIn s.goal 1 9 _).mono ?_
  rintro e wx ⟨rfl, rfl⟩
  rcases hq : inR s.goal 1 9 with _ | _
  · have E : Hid (rightB c s = false) := by rw [Hid, rightB, HQM.out, HQN.out, HQJ.out, hq]; rfl
    clear hq
    go_wp2
    go_ret
    exact ⟨by rw [E.out]; rfl, S2.fin⟩
  have HQ0 := hid hq
  clear hq
  go_wp2_with fail
  refine (bkIn s.prior 1 9 _).mono ?_
  rintro e wx ⟨rfl, rfl⟩
  rcases hq : inR s.prior 1 9 with _ | _
  · have E : Hid (rightB c s = false) := by rw [Hid, rightB, HQM.out, HQN.out, HQJ.out, HQ0.out, hq]; rfl
    clear hq
    go_wp2
    go_ret
    exact ⟨by rw [E.out]; rfl, S2.fin⟩
  have HQ1 := hid hq
  clear hq
  go_wp2_with fail
  refine (bkIn s.mode 0 2 _).mono ?_
  rintro e wx ⟨rfl, rfl⟩
  rcases hq : inR s.mode 0 2 with _ | _
  · have E : Hid (rightB c s = false) := by rw [Hid, rightB, HQM.out, HQN.out, HQJ.out, HQ0.out, HQ1.out, hq]; rfl
    clear hq
    go_wp2
    go_ret
    exact ⟨by rw [E.out]; rfl, S2.fin⟩
  have HQ2 := hid hq
  clear hq
  go_wp2_with fail
  refine (bkIn s.term 0 1000000 _).mono ?_
  rintro e wx ⟨rfl, rfl⟩
  rcases hq : inR s.term 0 1000000 with _ | _
  · have E : Hid (rightB c s = false) := by rw [Hid, rightB, HQM.out, HQN.out, HQJ.out, HQ0.out, HQ1.out, HQ2.out, hq]; rfl
    clear hq
    go_wp2
    go_ret
    exact ⟨by rw [E.out]; rfl, S2.fin⟩
  have HQ3 := hid hq
  clear hq
  go_wp2_with fail
  clear y0 y1 y2 y3 y4 y5 x0 x1 x2 x3 x4 x5 x6 x7 x8 g0 g1 g1n
  have ER : Hid (rightB c s = (standsK c s s.jn && (soundK s s.nn && quotaK c s c.queues.toNat))) := by rw [Hid, rightB, HQM.out, HQN.out, HQJ.out, HQ0.out, HQ1.out, HQ2.out, HQ3.out]; rfl
  clear HQM HQN HQJ HQ0 HQ1 HQ2 HQ3
  go_loopw [54] (fun i wr => ∃ k : Nat, k ≤ s.jn ∧ i = .int .i64 k ∧ standsK c s k = true ∧ St w wr [cellsT g2 23 c.cs, cellsT g3 27 s.cs]) (fun i _ => s.jn - (intOf i).toNat)
  case atStart => exact ⟨0, Nat.zero_le _, rfl, rfl, S2⟩
  case round =>
    obtain ⟨k, hk, rfl, hall, Sk⟩ := hrel
    have HAll := hid hall
    clear hall S2
    obtain ⟨y0, y1, y2, y3, y4, y5⟩ := Sk.sC 1 rfl
    obtain ⟨x0, x1, x2, x3, x4, x5, x6, x7, x8⟩ := Sk.cfC 0 rfl
    by_cases hlt : k < s.jn
    case pos =>
      have g0 : decide ((k : Int) < (s.jn : Int)) = true := decide_eq_true (by omega)
      have g0n : decide (k < s.jn) = true := decide_eq_true (by omega)
      have hkl : k < s.J.length := by rw [HS.out.jn]; exact hlt
      have i0 := fun wx => idxJB s.ja s.jn s.jc (fun h => HS.out.j.ok (by rw [HS.out.jn]; exact h)) k k rfl hlt wx
      have HX : Hid (∀ w', Below w.heap.size w w' → JbAt w' (adr s.ja (k * 12)) s.J[k]) := fun w' hb => (HS.out.j.all eJBok hb).jbAt hkl
      have hstep : Hid (standsK c s (k + 1) = standsB c s s.J[k] ((k : Int) + 1)) := by rw [Hid, standsK, HAll.out, List.getElem?_eq_getElem hkl]; rfl
      have hfail : Hid (standsK c s (k + 1) = false → rightB c s = false) := fun h => by rw [ER.out, standsK_no h s.jn (by omega)]; rfl
      generalize s.J[k] = j at *
      generalize adr s.ja (k * 12) = A at *
      obtain ⟨j0, j1, j2, j3, j4, j5, j6, j7, j8, j9, j10, j11⟩ := HX.out _ Sk.fin
      have Sj := Sk.alloc (.cells #[.int .i64 j.queue, .int .i64 j.prio, .int .i64 j.lo, .int .i64 j.hi, .int .i64 j.work, .int .i64 j.pin, .int .i64 j.phase, .int .i64 j.inc, .int .i64 j.nodes, .int .i64 j.since, .int .i64 j.until_, .int .i64 j.epoch] 51)
      obtain ⟨v0, v1, v2, v3, v4, v5⟩ := Sj.sC 1 rfl
      obtain ⟨u0, u1, u2, u3, u4, u5, u6, u7, u8⟩ := Sj.cfC 0 rfl
      go_wp2_with fail
      refine (bxStands _ c s j ((k : Int) + 1) QC.out.queues (HS.out.all (Sk.alloc _).fin) h6).mono ?_
      rintro e w3 ⟨rfl, hb3⟩
      have S2 := (Sk.alloc _).grow hb3
      clear y0 y1 y2 y3 y4 y5 x0 x1 x2 x3 x4 x5 x6 x7 x8 j0 j1 j2 j3 j4 j5 j6 j7 j8 j9 j10 j11 v0 v1 v2 v3 v4 v5 u0 u1 u2 u3 u4 u5 u6 u7 u8 Sj i0 HX hb3 Sk
      cases hsb : standsB c s j ((k : Int) + 1)
      · have E := hid (hfail.out (by rw [hstep.out, hsb]))
        clear hsb hfail hstep
        go_wp2
        go_ret
        exact ⟨by rw [E.out]; rfl, S2.fin⟩
      have hall3 : Hid (standsK c s (k + 1) = true) := by rw [Hid, hstep.out, hsb]
      clear hsb hfail hstep
      go_wp2
      go_roundw
      case rel => exact ⟨k + 1, by omega, by go_num, hall3.out, S2⟩
      case measure => simp [intOf]; omega
    have g0 : decide ((k : Int) < (s.jn : Int)) = false := decide_eq_false (by omega)
    have g0n : decide (k < s.jn) = false := decide_eq_false (by omega)
    have ES : Hid (standsK c s s.jn = true) := by rw [Hid, show s.jn = k by omega]; exact HAll.out
    have ER2 : Hid (rightB c s = (soundK s s.nn && quotaK c s c.queues.toNat)) := by rw [Hid, ER.out, ES.out]; rfl
    have HJob : Hid (∀ i (h : i < s.J.length), 0 ≤ s.J[i].nodes ∧ s.J[i].nodes < 64) := fun i h => standsB_small h6 (standsK_at ES.out i h (by have := HS.out.jn; omega))
    clear ER ES
    clear HAll hlt hk
    go_wp2_with fail
    clear y0 y1 y2 y3 y4 y5 x0 x1 x2 x3 x4 x5 x6 x7 x8
    have S2 := Sk
    clear Sk
    go_loopw [70] (fun i wr => ∃ k : Nat, k ≤ s.nn ∧ i = .int .i64 k ∧ soundK s k = true ∧ St w wr [cellsT g2 23 c.cs, cellsT g3 27 s.cs]) (fun i _ => s.nn - (intOf i).toNat)
    case atStart => exact ⟨0, Nat.zero_le _, rfl, rfl, S2⟩
    case round =>
      obtain ⟨k, hk, rfl, hall, Sk⟩ := hrel
      have HAll := hid hall
      clear hall S2
      obtain ⟨y0, y1, y2, y3, y4, y5⟩ := Sk.sC 1 rfl
      obtain ⟨x0, x1, x2, x3, x4, x5, x6, x7, x8⟩ := Sk.cfC 0 rfl
      by_cases hlt : k < s.nn
      case pos =>
        have g0 : decide ((k : Int) < (s.nn : Int)) = true := decide_eq_true (by omega)
        have g0n : decide (k < s.nn) = true := decide_eq_true (by omega)
        have hkl : k < s.N.length := by rw [HS.out.nn]; exact hlt
        have i0 := fun wx => idxND s.na s.nn s.nc (fun h => HS.out.n.ok (by rw [HS.out.nn]; exact h)) k hlt wx
        have HX : Hid (∀ w', Below w.heap.size w w' → NdAt w' (adr s.na (k * 5)) s.N[k]) := fun w' hb => (HS.out.n.all eNDok hb).ndAt hkl
        have hstep : Hid (soundK s (k + 1) = soundB s s.N[k] k) := by rw [Hid, soundK, HAll.out, List.getElem?_eq_getElem hkl]; rfl
        have hfail : Hid (soundK s (k + 1) = false → rightB c s = false) := fun h => by rw [ER2.out, soundK_no h s.nn (by omega)]; rfl
        generalize s.N[k] = x at *
        generalize adr s.na (k * 5) = A at *
        obtain ⟨j0, j1, j2, j3, j4⟩ := HX.out _ Sk.fin
        have Sj := Sk.alloc (.cells #[.bool x.up, .bool x.cordon, .bool x.moving, .int .i64 x.version, .int .i64 x.job] 39)
        obtain ⟨v0, v1, v2, v3, v4, v5⟩ := Sj.sC 1 rfl
        go_wp2_with fail
        refine (bxSound _ s x k (by omega) (HS.out.all (Sk.alloc _).fin) HJob.out).mono ?_
        rintro e w3 ⟨rfl, hb3⟩
        have S2 := (Sk.alloc _).grow hb3
        clear y0 y1 y2 y3 y4 y5 x0 x1 x2 x3 x4 x5 x6 x7 x8 j0 j1 j2 j3 j4 v0 v1 v2 v3 v4 v5 Sj i0 HX hb3 Sk
        cases hsb : soundB s x k
        · have E := hid (hfail.out (by rw [hstep.out, hsb]))
          clear hsb hfail hstep
          go_wp2
          go_ret
          exact ⟨by rw [E.out]; rfl, S2.fin⟩
        have hall3 : Hid (soundK s (k + 1) = true) := by rw [Hid, hstep.out, hsb]
        clear hsb hfail hstep
        go_wp2
        go_roundw
        case rel => exact ⟨k + 1, by omega, by go_num, hall3.out, S2⟩
        case measure => simp [intOf]; omega
      have g0 : decide ((k : Int) < (s.nn : Int)) = false := decide_eq_false (by omega)
      have g0n : decide (k < s.nn) = false := decide_eq_false (by omega)
      have ER3 : Hid (rightB c s = quotaK c s c.queues.toNat) := by rw [Hid, ER2.out, show s.nn = k by omega, HAll.out]; rfl
      clear ER2
      clear HAll hlt hk
      go_wp2_with fail
      clear y0 y1 y2 y3 y4 y5 x0 x1 x2 x3 x4 x5 x6 x7 x8
      have S2 := Sk
      clear Sk
      obtain ⟨n, hn⟩ : ∃ n : Nat, c.queues = n := ⟨c.queues.toNat, by have := QC.out.queues; omega⟩
      go_loopw [83] (fun i wr => ∃ k : Nat, (k : Int) ≤ c.queues ∧ i = .int .i64 k ∧ quotaK c s k = true ∧ St w wr [cellsT g2 23 c.cs, cellsT g3 27 s.cs]) (fun i _ => n - (intOf i).toNat)
      case atStart => exact ⟨0, by have := QC.out.queues; omega, rfl, rfl, S2⟩
      case round =>
        obtain ⟨k, hk, rfl, hqk, Sk⟩ := hrel
        have HQK := hid hqk
        clear S2 hqk
        have hq3 : c.queues ≤ 3 := QC.out.queues.2
        have HN := hid hn
        clear hn
        by_cases hlt : (k : Int) < c.queues
        case neg =>
          have g0 : decide ((k : Int) < c.queues) = false := decide_eq_false (by omega)
          have E : Hid (rightB c s = true) := by rw [Hid, ER3.out, show c.queues.toNat = k by omega]; exact HQK.out
          clear hlt hk
          go_wp2
          go_ret
          exact ⟨by rw [E.out]; rfl, Sk.fin⟩
        have g0 : decide ((k : Int) < c.queues) = true := decide_eq_true (by omega)
        have keep : ∀ {w' : World}, St w w' [cellsT g2 23 c.cs, cellsT g3 27 s.cs] → (w'.cell? ⟨g3, 0, none⟩ = some (.slice s.na s.nn s.nc) ∧ w'.cell? ⟨g3, 1, none⟩ = some (.slice s.ja s.jn s.jc) ∧ w'.cell? ⟨g3, 2, none⟩ = some (.int .i64 s.goal) ∧ w'.cell? ⟨g3, 3, none⟩ = some (.int .i64 s.prior) ∧ w'.cell? ⟨g3, 4, none⟩ = some (.int .i64 s.mode) ∧ w'.cell? ⟨g3, 5, none⟩ = some (.int .i64 s.term) ∧ w'.cell? ⟨g2, 2, none⟩ = some (.int .i64 c.quota)) := fun S => ⟨S.cell 1 rfl 0 rfl, S.cell 1 rfl 1 rfl, S.cell 1 rfl 2 rfl, S.cell 1 rfl 3 rfl, S.cell 1 rfl 4 rfl, S.cell 1 rfl 5 rfl, S.cell 0 rfl 2 rfl⟩
        go_wp2_with fail
        refine wp_region_held_drew (S := (fun w' => (w'.cell? ⟨g3, 0, none⟩ = some (.slice s.na s.nn s.nc) ∧ w'.cell? ⟨g3, 1, none⟩ = some (.slice s.ja s.jn s.jc) ∧ w'.cell? ⟨g3, 2, none⟩ = some (.int .i64 s.goal) ∧ w'.cell? ⟨g3, 3, none⟩ = some (.int .i64 s.prior) ∧ w'.cell? ⟨g3, 4, none⟩ = some (.int .i64 s.mode) ∧ w'.cell? ⟨g3, 5, none⟩ = some (.int .i64 s.term) ∧ w'.cell? ⟨g2, 2, none⟩ = some (.int .i64 c.quota)))) (by kernel_rfl) (by exact keep Sk.drew) (fun hHeld => ?_)
        change wpAnyH _ _ _ _ _ 6 (Array.replicate 6 false) _ _
        refine wpAnyH_take (i := 0) (v := ?v1) (ops_at rfl) (by kernel_rfl) (by kernel_rfl) (by kernel_rfl) (fun _ _ _ h => h) (Or.inl ⟨by rfl, ?hy1⟩) (by assumption) ?rest1
        case hy1 => intro w' hSw; (try dsimp only at hSw); go_simp; try with_reducible rfl
        try simp only [Act.put, List.setIfInBounds_toArray, List.set_cons_zero, List.set_cons_succ]
        refine wpAnyH_take (i := 1) (v := ?v2) (ops_at rfl) (by kernel_rfl) (by kernel_rfl) (by kernel_rfl) (fun _ _ _ h => h) (Or.inl ⟨by rfl, ?hy2⟩) (by assumption) ?rest2
        case hy2 => intro w' hSw; (try dsimp only at hSw); go_simp; try with_reducible rfl
        try simp only [Act.put, List.setIfInBounds_toArray, List.set_cons_zero, List.set_cons_succ]
        refine wpAnyH_take (i := 3) (v := ?v3) (ops_at rfl) (by kernel_rfl) (by kernel_rfl) (by kernel_rfl) (fun _ _ _ h => h) (Or.inl ⟨by rfl, ?hy3⟩) (by assumption) ?rest3
        case hy3 => intro w' hSw; (try dsimp only at hSw); go_simp; try with_reducible rfl
        try simp only [Act.put, List.setIfInBounds_toArray, List.set_cons_zero, List.set_cons_succ]
        refine wpAnyH_take (i := 4) (v := ?v4) (ops_at rfl) (by kernel_rfl) (by kernel_rfl) (by kernel_rfl) (fun _ _ _ h => h) (Or.inl ⟨by rfl, ?hy4⟩) (by assumption) ?rest4
        case hy4 => intro w' hSw; (try dsimp only at hSw); go_simp; try with_reducible rfl
        try simp only [Act.put, List.setIfInBounds_toArray, List.set_cons_zero, List.set_cons_succ]
        refine wpAnyH_ready (rs := [2]) (by kernel_rfl) (by simp) ?_
        refine AllReadyH.cons (ops_at rfl) (fun K hK => ?_) AllReadyH.nil
        go_simp
        refine (bxDrains _ s (k : Int) (HS.out.all Sk.drew.fin) (by omega)).mono ?_
        rintro e w3 ⟨rfl, hb3⟩
        have S2 := Sk.drew.grow hb3
        refine hK.out _ _ (by exact keep S2) (fun hHeld => ?_)
        clear hK K
        try simp only [Act.put, List.setIfInBounds_toArray, List.set_cons_zero, List.set_cons_succ]
        refine wpAnyH_take (i := 5) (v := ?v6) (ops_at rfl) (by kernel_rfl) (by kernel_rfl) (by kernel_rfl) (fun _ _ _ h => h) (Or.inl ⟨by rfl, ?hy6⟩) (by assumption) ?rest6
        case hy6 => intro w' hSw; (try dsimp only at hSw); go_simp; try with_reducible rfl
        try simp only [Act.put, List.setIfInBounds_toArray, List.set_cons_zero, List.set_cons_succ]
        refine wpAnyH_done (by kernel_rfl) ?_ _
        clear keep hb3 Sk
        have hstep : Hid (quotaK c s (k + 1) = !decide (c.quota < (drK s k s.jn : Int))) := by rw [Hid, quotaK, HQK.out]; rfl
        have hfail : Hid (quotaK c s (k + 1) = false → rightB c s = false) := fun h => by rw [ER3.out, quotaK_no h c.queues.toNat (by omega)]
        cases hbb : decide (c.quota < (drK s k s.jn : Int))
        · have hall3 : Hid (quotaK c s (k + 1) = true) := by rw [Hid, hstep.out, hbb]; rfl
          clear hstep hfail
          go_wp2
          go_roundw
          case rel => exact ⟨k + 1, by omega, by go_num, hall3.out, S2⟩
          case measure => simp [intOf]; have := HN.out; omega
        · have E := hid (hfail.out (by rw [hstep.out, hbb]; rfl))
          clear hstep hfail
          go_wp2
          go_ret
          exact ⟨by rw [E.out]; rfl, S2.fin⟩
end Go.Proofs.YtjfbmgndekfglaaDoor
