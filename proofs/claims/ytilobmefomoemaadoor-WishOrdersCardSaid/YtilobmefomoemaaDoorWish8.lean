/- WishGangs: the law. -/
import Derived.Test.YtilobmefomoemaaDoorGangs
namespace Go.Proofs.YtilobmefomoemaaDoor
set_option linter.unusedVariables false
set_option linter.unusedSimpArgs false
open Go.RowKit
def kindJ (j : JB) : Int := if j.phase = 2 then 3 else if j.phase = 3 then 4 else 2
def mdJ (j : JB) (i : Int) : Int := if j.phase = 3 then j.writes i else 0
def Wj (j : JB) (i : Nat) : Int := if j.phase = 3 ∧ 0 < j.nodes ∧ lowB j.nodes.toNat < i then 1 else 0
theorem Wj_range (j : JB) (i : Nat) : 0 ≤ Wj j i ∧ Wj j i ≤ 1 := by unfold Wj; split <;> omega
theorem hasB_nil {n : Int} {i : Nat} (h0 : 0 ≤ n) (h : hasB n i = true) : 0 < n := by
  rcases Int.lt_or_eq_of_le h0 with h1 | h1
  · exact h1
  · rw [← h1] at h; unfold hasB at h; simp at h
theorem Wj_step (j : JB) (i : Nat) (h0 : 0 ≤ j.nodes) (h6 : j.nodes < 64) : Wj j (i + 1) = Wj j i + if hasB j.nodes i = true then mdJ j i else 0 := by
  by_cases h3 : j.phase = 3
  case neg =>
    unfold Wj mdJ
    rw [if_neg (fun h => h3 h.1), if_neg (fun h => h3 h.1), if_neg h3]
    split <;> rfl
  have hm : mdJ j i = if (lowB j.nodes.toNat : Int) = i then 1 else 0 := by unfold mdJ JB.writes; rw [if_pos h3]
  rw [hm]
  rcases Int.lt_or_eq_of_le h0 with h1 | h1
  case inr =>
    have hb : hasB j.nodes i = false := by rw [← h1]; unfold hasB; simp
    rw [if_neg (by rw [hb]; simp)]
    unfold Wj
    rw [if_neg (fun h => by omega), if_neg (fun h => by omega)]; rfl
  obtain ⟨n, hn⟩ : ∃ n : Nat, j.nodes = n := ⟨j.nodes.toNat, by omega⟩
  have hl : hasB j.nodes (lowB j.nodes.toNat) = true := by
    rw [hn]
    exact low_has ⟨n, by omega⟩ (by simp; omega)
  unfold Wj
  by_cases hlt : lowB j.nodes.toNat < i
  · rw [if_pos ⟨h3, h1, by omega⟩, if_pos ⟨h3, h1, hlt⟩, show (if (lowB j.nodes.toNat : Int) = i then (1 : Int) else 0) = 0 from if_neg (by omega)]; split <;> rfl
  · rw [if_neg (c := _ ∧ _ ∧ lowB j.nodes.toNat < i) (fun h => hlt h.2.2)]
    by_cases he : lowB j.nodes.toNat = i
    · rw [if_pos ⟨h3, h1, by omega⟩, if_pos (by rw [← he]; exact hl), if_pos (by rw [he])]; rfl
    · rw [if_neg (fun h => by omega), if_neg (show ¬ (lowB j.nodes.toNat : Int) = i by omega)]; split <;> rfl
theorem wOrderJ_facts (s : STA) (K : Int) (x : ND) (o : Option SS) (j : JB) :
    (wOrderJ s K x o j).kind = kindJ j ∧ (wOrderJ s K x o j).inc = j.inc ∧ (wOrderJ s K x o j).job = x.job ∧ (wOrderJ s K x o j).node = K ∧ (wOrderJ s K x o j).mode = mdJ j K := by
  unfold wOrderJ kindJ mdJ
  by_cases h2 : j.phase = 2
  · simp [h2]
  · by_cases h3 : j.phase = 3
    · simp [h3]
    · by_cases h1 : j.phase = 1
      · simp [h1]
      · simp [h1, h2, h3]
theorem wOrderN_job {c : CF} {s : STA} (h : RF c s) (K : Nat) (hK : K < s.N.length) (o : Option SS) : (wOrderN s K s.N[K] o).job = s.N[K].job := by
  have hn := h.node K hK
  generalize s.N[K] = x at *
  unfold wOrderN
  by_cases hj : x.job = 0
  · rw [if_pos hj, hj]
  · rw [if_neg hj]
    obtain ⟨j, h1, h2⟩ := hn.has hj
    rw [h1]
    exact (wOrderJ_facts s K x o j).2.2.1
theorem own_has {c : CF} {s : STA} (h : RF c s) (K : Nat) (hK : K < s.N.length) (J : Nat) (hJ : J < s.J.length) (hj : s.N[K].job = (J : Int) + 1) : hasB s.J[J].nodes K = true := by
  obtain ⟨j, h1, h2⟩ := (h.node K hK).has (by omega)
  rw [show (s.N[K].job - 1).toNat = J by omega, List.getElem?_eq_getElem hJ] at h1
  rw [Option.some.inj h1]; exact h2
theorem has_own {c : CF} {s : STA} (h : RF c s) (K : Nat) (hK : K < s.N.length) (J : Nat) (hJ : J < s.J.length) (hb : hasB s.J[J].nodes K = true) : s.N[K].up = true ∧ s.N[K].job = (J : Int) + 1 := by
  have hjf := h.job J hJ
  rcases hp : placedB s.J[J].phase with _ | _
  · rw [hjf.rest hp] at hb
    unfold hasB at hb; simp at hb
  · have := (hjf.put hp).own K hK hb
    unfold ND.mine at this
    simp at this
    exact ⟨this.1, this.2.2⟩
def worldOf {w0 w : World} {l : List Thing} (S : St w0 w l) : World := w
theorem gang_end {c : CF} {s : STA} (h : RF c s) (hN : s.N.length = s.nn) (J : Nat) (hJ : J < s.J.length) (F : Msg) (f0 : cntB s.J[J].nodes s.nn = 0 → F = Msg.zero) (f1 : 0 < cntB s.J[J].nodes s.nn → F.kind = kindJ s.J[J] ∧ F.inc = s.J[J].inc) (h6 : s.nn ≤ 6) :
    cntB s.J[J].nodes s.nn = cntB s.J[J].nodes 6 ∧ ((F.kind = 4 ∧ Wj s.J[J] s.nn = 1) ∨ (F.kind ≠ 4 ∧ Wj s.J[J] s.nn = 0)) := by
  have hjf := h.job J hJ
  have hsm := hjf.small
  rcases hp : placedB s.J[J].phase with _ | _
  · have hz := hjf.rest hp
    rw [hz] at f0 f1 ⊢
    rw [cntB_zero] at f0
    have := f0 rfl
    refine ⟨by rw [cntB_zero, cntB_zero], .inr ⟨by rw [this]; decide, ?_⟩⟩
    unfold Wj
    rw [if_neg (fun h => by omega)]
  · have hf := hjf.put hp
    obtain ⟨n, hn⟩ : ∃ n : Nat, s.J[J].nodes = n := ⟨s.J[J].nodes.toNat, by omega⟩
    have hpos := hf.pos
    have hl : hasB s.J[J].nodes (lowB s.J[J].nodes.toNat) = true := by
      have := low_has ⟨n, by omega⟩ (by simp; omega)
      rw [hn]; exact this
    have hlt : lowB s.J[J].nodes.toNat < s.nn := by
      rcases Nat.lt_or_ge (lowB s.J[J].nodes.toNat) s.nn with h1 | h1
      · exact h1
      · have := hasB_big hsm.1 hf.lt2 h1
        rw [this] at hl; cases hl
    refine ⟨?_, ?_⟩
    · have := cntB_big hsm.1 hf.lt2 (6 - s.nn)
      rw [show s.nn + (6 - s.nn) = 6 by omega] at this
      exact this.symm
    · have hk := (f1 (cntB_pos hl _ hlt)).1
      by_cases h3 : s.J[J].phase = 3
      · exact .inl ⟨by rw [hk]; unfold kindJ; rw [if_neg (by omega), if_pos h3], by unfold Wj; rw [if_pos ⟨h3, hpos, hlt⟩]⟩
      · refine .inr ⟨?_, by unfold Wj; rw [if_neg (fun h => h3 h.1)]⟩
        rw [hk]; unfold kindJ
        rw [if_neg h3]
        split <;> omega
set_option maxRecDepth 10000 in
set_option maxHeartbeats 6400000 in
theorem wishGangs_law (c : CF) (s : STA) (w : World) (hs : s.At w) (hT : TabOk w) : Calls Tryd.prog 5 #[.agg #[.int .i64 c.nodes, .int .i64 c.queues, .int .i64 c.quota, .int .i64 c.wave, .int .i64 c.lease, .int .i64 c.retry, .int .i64 c.deadline, .int .i64 c.room, .int .i64 c.disk], .agg #[.slice s.na s.nn s.nc, .slice s.ja s.jn s.jc, .int .i64 s.goal, .int .i64 s.prior, .int .i64 s.mode, .int .i64 s.term]] w fun e w' => e = .returned (.bool true) ∧ Below w.heap.size w w' := by
  have S1 : St w _ [cellsT w.heap.size 29 c.cs, cellsT (w.heap.size + 1) 33 s.cs] := ((St.start w).newAt 29 #[.int .i64 c.nodes, .int .i64 c.queues, .int .i64 c.quota, .int .i64 c.wave, .int .i64 c.lease, .int .i64 c.retry, .int .i64 c.deadline, .int .i64 c.room, .int .i64 c.disk] w.heap.size rfl).newAt 33 #[.slice s.na s.nn s.nc, .slice s.ja s.jn s.jc, .int .i64 s.goal, .int .i64 s.prior, .int .i64 s.mode, .int .i64 s.term] (w.heap.size + 1) (alloc_size _ _)
  have HS := hid hs
  have HT := hid hT
  clear hs hT
  go_enter Tryd.func5, Tryd.ntmps5
  go_wp2_with fail
  generalize w.heap.size + 1 = bs at *
  generalize w.heap.size = bc at *
  generalize (w.alloc _).alloc _ = w1 at *
  refine (alive19_any _ (HT.out.all S1.fin)).mono ?_
  rintro e w2 ⟨rfl, hb2⟩
  have S2 := S1.grow hb2
  clear S1 hb2
  obtain ⟨y0, y1, y2, y3, y4, y5⟩ := S2.sC 1 rfl
  obtain ⟨x0, x1, x2, x3, x4, x5, x6, x7, x8⟩ := S2.cfC 0 rfl
  go_wp2_with fail
  refine (bkRight _ c s (HS.out.all S2.fin)).mono ?_
  rintro e w3 ⟨b, rfl, hF, hb3⟩
  have S3 := S2.grow hb3
  clear y0 y1 y2 y3 y4 y5 x0 x1 x2 x3 x4 x5 x6 x7 x8 S2 hb3
  cases b
  · go_wp2
    go_ret
    exact ⟨rfl, S3.fin⟩
  have HF := hid (hF rfl)
  clear hF
  have h6 : s.nn ≤ 6 := by have h1 := HF.out.nn; have h2 := HF.out.conf.nodes; omega
  have hjn := HF.out.jn
  have S4 := S3.soNew
  clear S3
  go_wp2_with fail
  go_loopw [5] (fun i wr => ∃ k : Nat, k ≤ s.jn ∧ i = .int .i64 k ∧ St w wr [cellsT bc 29 c.cs, cellsT bs 33 s.cs, soT (.pointer none) none]) (fun i _ => s.jn - (intOf i).toNat)
  case atStart => exact ⟨0, Nat.zero_le _, rfl, S4⟩
  case round =>
    obtain ⟨k, hk, rfl, Sk⟩ := hrel
    clear S4
    obtain ⟨y0, y1, y2, y3, y4, y5⟩ := Sk.sC 1 rfl
    by_cases hlt : k < s.jn
    case neg =>
      have g0 : decide ((k : Int) < (s.jn : Int)) = false := decide_eq_false (by omega)
      have g0n : decide (k < s.jn) = false := decide_eq_false (by omega)
      clear hlt hk
      go_wp2
      go_ret
      exact ⟨rfl, Sk.fin⟩
    have g0 : decide ((k : Int) < (s.jn : Int)) = true := decide_eq_true (by omega)
    have g0n : decide (k < s.jn) = true := decide_eq_true (by omega)
    have hkl : k < s.J.length := by rw [HS.out.jn]; exact hlt
    have i1 := fun wx => idxJB s.ja s.jn s.jc (fun h => HS.out.j.ok (by rw [HS.out.jn]; exact h)) k k rfl hlt wx
    have HB : Hid (∀ w', Below w.heap.size w w' → JbAt w' (adr s.ja (k * 12)) s.J[k]) := fun w' hb => (HS.out.j.all eJBok hb).jbAt hkl
    have HEnd : Hid (∀ F : Msg, (cntB s.J[k].nodes s.nn = 0 → F = Msg.zero) → (0 < cntB s.J[k].nodes s.nn → F.kind = kindJ s.J[k] ∧ F.inc = s.J[k].inc) → cntB s.J[k].nodes s.nn = cntB s.J[k].nodes 6 ∧ ((F.kind = 4 ∧ Wj s.J[k] s.nn = 1) ∨ (F.kind ≠ 4 ∧ Wj s.J[k] s.nn = 0))) := fun F f0 f1 => gang_end HF.out HS.out.nn k hkl F f0 f1 h6
    have HOwn : Hid (∀ K (hK : K < s.N.length), s.N[K].job = (k : Int) + 1 → hasB s.J[k].nodes K = true) := fun K hK h => own_has HF.out K hK k hkl h
    have HHas : Hid (∀ K (hK : K < s.N.length), hasB s.J[k].nodes K = true → s.N[K].up = true ∧ s.N[K].job = (k : Int) + 1) := fun K hK h => has_own HF.out K hK k hkl h
    have hsm := (HF.out.job k hkl).small
    have HJg : Hid (s.J[k]? = some s.J[k]) := List.getElem?_eq_getElem hkl
    generalize s.J[k] = j at *
    generalize adr s.ja (k * 12) = B at *
    have S5 : St w (wr.alloc (.cells #[.int .i64 0, .int .i64 0, .int .i64 0, .int .i64 0, .int .i64 0, .int .i64 0, .int .i64 0, .int .i64 0, .int .i64 0, .int .i64 0, .int .i64 0] 23)) [cellsT wr.heap.size 23 Msg.zero.cs, cellsT bc 29 c.cs, cellsT bs 33 s.cs, soT (.pointer none) none] := (Sk.newAt 23 _ wr.heap.size rfl).rot
    go_wp2_with fail
    generalize wr.heap.size = g8 at *
    generalize wr.alloc _ = w5 at *
    clear Sk y0 y1 y2 y3 y4 y5
    go_loopw [6, 7, 9] (fun q v i wr => ∃ (i' : Nat) (F : Msg), i' ≤ s.nn ∧ q = .int .i64 (cntB j.nodes i' : Int) ∧ v = .int .i64 (Wj j i') ∧ i = .int .i64 i' ∧ (cntB j.nodes i' = 0 → F = Msg.zero) ∧ (0 < cntB j.nodes i' → F.kind = kindJ j ∧ F.inc = j.inc) ∧ St w wr [cellsT g8 23 F.cs, cellsT bc 29 c.cs, cellsT bs 33 s.cs, soT (.pointer none) none]) (fun _ _ i _ => s.nn - (intOf i).toNat)
    case atStart => exact ⟨0, Msg.zero, Nat.zero_le _, rfl, by rw [show Wj j 0 = 0 by unfold Wj; rw [if_neg (fun h => by omega)]], rfl, fun _ => rfl, fun h => absurd h (by simp [cntB]), S5⟩
    case round =>
      obtain ⟨i, F, hi, rfl, rfl, rfl, hF0, hF1, Si⟩ := hrel
      have HF0 := hid hF0
      have HF1 := hid hF1
      clear S5 hF0 hF1
      obtain ⟨y0, y1, y2, y3, y4, y5⟩ := Si.sC 2 rfl
      have hcl := cntB_le j.nodes i
      have hwl := Wj_range j i
      by_cases hli : i < s.nn
      case neg =>
        have g1 : decide ((i : Int) < (s.nn : Int)) = false := decide_eq_false (by omega)
        have g1n : decide (i < s.nn) = false := decide_eq_false (by omega)
        have e : i = s.nn := by omega
        rw [e] at HF0 HF1
        obtain ⟨E1, E2⟩ := HEnd.out F HF0.out HF1.out
        rw [← e] at E1 E2
        have HE1 := hid E1
        have jn := (HB.out _ Si.fin).2.2.2.2.2.2.2.2.1
        have f1 := Si.cell 0 rfl 1 rfl
        clear hli hi e E1 HF0 HF1
        go_wp2_with fail
        refine (rMany j.nodes _ hsm.1 hsm.2).mono ?_
        rintro e w9 ⟨rfl, rfl⟩
        rw [← HE1.out]
        have gq : ((cntB j.nodes i : Int) != (cntB j.nodes i : Int)) = false := by simp
        rcases E2 with ⟨E3, E4⟩ | ⟨E3, E4⟩
        · have q1 : (F.kind == 4) = true := by simpa using E3
          have q2 : (F.kind != 4) = false := by rw [E3]; rfl
          rw [E4]
          clear E3 E4
          go_wp2
          go_roundw
          case rel => exact ⟨k + 1, by omega, by go_num, Si.tail⟩
          case measure => simp [intOf]; omega
        · have q1 : (F.kind == 4) = false := by simpa using E3
          have q2 : (F.kind != 4) = true := by simpa using E3
          rw [E4]
          clear E3 E4
          go_wp2
          go_roundw
          case rel => exact ⟨k + 1, by omega, by go_num, Si.tail⟩
          case measure => simp [intOf]; omega
      have g1 : decide ((i : Int) < (s.nn : Int)) = true := decide_eq_true (by omega)
      have g1n : decide (i < s.nn) = true := decide_eq_true (by omega)
      have hil : i < s.N.length := by rw [HS.out.nn]; exact hli
      have i0 := fun wx => idxND s.na s.nn s.nc (fun h => HS.out.n.ok (by rw [HS.out.nn]; exact h)) i hli wx
      have HO := hid (wOrder_at s HS.out.nn i hil none)
      have HOj := hid (wOrderN_job HF.out i hil none)
      have HX : Hid (∀ w', Below w.heap.size w w' → NdAt w' (adr s.na (i * 5)) s.N[i]) := fun w' hb => (HS.out.n.all eNDok hb).ndAt hil
      have HO1 := hid (HOwn.out i hil)
      have HO2 := hid (HHas.out i hil)
      have HO3 : Hid (s.N[i].job = (k : Int) + 1 → wOrderN s i s.N[i] none = wOrderJ s i s.N[i] none j) := fun h => by
        unfold wOrderN
        rw [if_neg (by omega), show (s.N[i].job - 1).toNat = k by omega, HJg.out]
      have HC : Hid (cntB j.nodes (i + 1) = cntB j.nodes i + if hasB j.nodes i = true then 1 else 0) := rfl
      have HWs := hid (Wj_step j i hsm.1 hsm.2)
      generalize s.N[i] = x at *
      generalize adr s.na (i * 5) = A at *
      go_wp2_with fail
      refine (wOrder_any Si (k := 3) rfl s (HS.out.all Si.fin) (HT.out.all Si.fin) HF.out.ord (i : Int)).mono ?_
      rintro e w7 ⟨rfl, hb7⟩
      have S7 := Si.grow hb7
      clear hb7 Si y0 y1 y2 y3 y4 y5
      by_cases hu : x.up = true
      case neg =>
        rw [HO.out, if_neg hu, orderV_none]
        have hub : x.up = false := by simpa using hu
        have hb : hasB j.nodes i = false := by
          cases h : hasB j.nodes i
          · rfl
          · exact absurd (HO2.out h).1 hu
        have HC2 : Hid (cntB j.nodes (i + 1) = cntB j.nodes i) := by rw [Hid, HC.out, hb]; rfl
        have HW2 : Hid (Wj j (i + 1) = Wj j i) := by rw [Hid, HWs.out, hb]; simp
        have S8 := S7.alloc (.cells #[.int .i64 0, .int .i64 0, .int .i64 0, .int .i64 0, .int .i64 0, .int .i64 0, .int .i64 0, .int .i64 0, .int .i64 0, .int .i64 0, .int .i64 0] 23)
        obtain ⟨y0, y1, y2, y3, y4, y5⟩ := S8.sC 2 rfl
        obtain ⟨x0, x1, x2, x3, x4⟩ := HX.out _ S8.fin
        rw [hub] at x0
        clear hb hu hub HO HO1 HO2 HO3 HOj HC HWs
        go_wp2
        go_roundw
        case rel => exact ⟨i + 1, F, by omega, by rw [HC2.out], by rw [HW2.out], by go_num, by rw [HC2.out]; exact HF0.out, by rw [HC2.out]; exact HF1.out, S8⟩
        case measure => simp [intOf]; omega
      rw [HO.out, if_pos hu, orderV_some]
      obtain ⟨m, hm⟩ : ∃ m, wOrderN s i x none = m := ⟨_, rfl⟩
      rw [hm] at HOj HO3 ⊢
      have S8 : St w (w7.alloc (.cells #[.int .i64 m.node, .int .i64 m.kind, .int .i64 m.term, .int .i64 m.gen, .int .i64 m.job, .int .i64 m.inc, .int .i64 m.version, .int .i64 m.epoch, .int .i64 m.until_, .int .i64 m.mode, .int .i64 m.work] 23)) [cellsT g8 23 F.cs, cellsT bc 29 c.cs, cellsT bs 33 s.cs, soT (.pointer none) none, cellsT w7.heap.size 23 m.cs] := S7.newAt 23 #[.int .i64 m.node, .int .i64 m.kind, .int .i64 m.term, .int .i64 m.gen, .int .i64 m.job, .int .i64 m.inc, .int .i64 m.version, .int .i64 m.epoch, .int .i64 m.until_, .int .i64 m.mode, .int .i64 m.work] w7.heap.size rfl
      obtain ⟨y0, y1, y2, y3, y4, y5⟩ := S8.sC 2 rfl
      obtain ⟨x0, x1, x2, x3, x4⟩ := HX.out _ S8.fin
      rw [hu] at x0
      by_cases hj : x.job = (k : Int) + 1
      case neg =>
        have hb : hasB j.nodes i = false := by
          cases h : hasB j.nodes i
          · rfl
          · exact absurd (HO2.out h).2 hj
        have HC2 : Hid (cntB j.nodes (i + 1) = cntB j.nodes i) := by rw [Hid, HC.out, hb]; rfl
        have HW2 : Hid (Wj j (i + 1) = Wj j i) := by rw [Hid, HWs.out, hb]; simp
        have gj : (m.job != (k : Int) + 1) = true := by rw [HOj.out]; simpa using hj
        clear hb hu hj HO HO1 HO2 HO3 HOj HC HWs hm
        go_wp2
        go_roundw
        case rel => exact ⟨i + 1, F, by omega, by rw [HC2.out], by rw [HW2.out], by go_num, by rw [HC2.out]; exact HF0.out, by rw [HC2.out]; exact HF1.out, S8.take 4⟩
        case measure => simp [intOf]; omega
      have gj : (m.job != (k : Int) + 1) = false := by rw [HOj.out, hj]; simp
      have hb := HO1.out hj
      have HC2 : Hid (cntB j.nodes (i + 1) = cntB j.nodes i + 1) := by rw [Hid, HC.out, hb]; rfl
      have HW2 : Hid (Wj j (i + 1) = Wj j i + mdJ j i) := by rw [Hid, HWs.out, hb]; simp
      obtain ⟨m1, m2, m3, m4, m5⟩ := wOrderJ_facts s i x none j
      rw [← HO3.out hj] at m1 m2 m3 m4 m5
      have hwl2 := Wj_range j (i + 1)
      have HM := hid m5.symm
      have q3 : (m.inc != j.inc) = false := by rw [m2]; simp
      have q4 : (m.node != (i : Int)) = false := by rw [m4]; simp
      have hmr : -1 ≤ m.mode ∧ m.mode ≤ 1 := by rw [m5]; have := HW2.out; omega
      by_cases hz : cntB j.nodes i = 0
      · have HFk : Hid (m.kind = kindJ j ∧ m.inc = j.inc) := ⟨m1, m2⟩
        have q1 : (m.kind != m.kind) = false := by simp
        have q2 : (m.inc != m.inc) = false := by simp
        have gz : ((cntB j.nodes i : Int) == 0) = true := by rw [hz]; rfl
        clear hb hu hj HO HO1 HO2 HO3 HOj HC HWs hm m1 m2 m3 m4 m5 hz HF0 HF1
        obtain ⟨e0, e1, e2, e3, e4, e5, e6, e7, e8, e9, e10⟩ := S8.msgFrozen 0 rfl
        obtain ⟨z0, z1, z2, z3, z4, z5, z6, z7, z8, z9, z10⟩ := S8.msg 0 rfl
        have S9 := S8.setMsg (m' := m)
        have ng : ¬ w7.heap.size = g8 := S8.neq 4 0 (by decide) rfl rfl
        have ng2 : ¬ g8 = w7.heap.size := S8.neq 0 4 (by decide) rfl rfl
        go_wp2_with fail
        generalize hw8 : w7.alloc (.cells #[.int .i64 m.node, .int .i64 m.kind, .int .i64 m.term, .int .i64 m.gen, .int .i64 m.job, .int .i64 m.inc, .int .i64 m.version, .int .i64 m.epoch, .int .i64 m.until_, .int .i64 m.mode, .int .i64 m.work] 23) = w8 at *
        generalize hg10 : w7.heap.size = g10 at *
        obtain ⟨w9, hw9⟩ : ∃ w9, worldOf S9 = w9 := ⟨_, rfl⟩
        unfold worldOf at hw9
        rw [hw9] at S9 ⊢
        clear hw9 e0 e1 e2 e3 e4 e5 e6 e7 e8 e9 e10 z0 z1 z2 z3 z4 z5 z6 z7 z8 z9 z10 S8 S7 y0 y1 y2 y3 y4 y5 x0 x1 x2 x3 x4 i0 ng ng2 hw8 hg10
        have keep : ∀ {w' : World}, St w w' [cellsT g8 23 m.cs, cellsT bc 29 c.cs, cellsT bs 33 s.cs, soT (.pointer none) none, cellsT g10 23 m.cs] → (w'.cell? ⟨g10, 1, none⟩ = some (.int .i64 m.kind) ∧ w'.cell? ⟨g10, 5, none⟩ = some (.int .i64 m.inc) ∧ w'.cell? ⟨g10, 0, none⟩ = some (.int .i64 m.node) ∧ w'.cell? ⟨g8, 1, none⟩ = some (.int .i64 m.kind) ∧ w'.cell? ⟨g8, 5, none⟩ = some (.int .i64 m.inc) ∧ w'.cell? ⟨bs, 1, none⟩ = some (.slice s.ja s.jn s.jc) ∧ w'.cell? { block := B.block, off := B.off + 7 } = some (.int .i64 j.inc)) := fun S => ⟨S.cell 4 rfl 1 rfl, S.cell 4 rfl 5 rfl, S.cell 4 rfl 0 rfl, S.cell 0 rfl 1 rfl, S.cell 0 rfl 5 rfl, S.cell 2 rfl 1 rfl, (HB.out _ S.fin).2.2.2.2.2.2.2.1⟩
        refine wp_region_held_drew (S := (fun w' => (w'.cell? ⟨g10, 1, none⟩ = some (.int .i64 m.kind) ∧ w'.cell? ⟨g10, 5, none⟩ = some (.int .i64 m.inc) ∧ w'.cell? ⟨g10, 0, none⟩ = some (.int .i64 m.node) ∧ w'.cell? ⟨g8, 1, none⟩ = some (.int .i64 m.kind) ∧ w'.cell? ⟨g8, 5, none⟩ = some (.int .i64 m.inc) ∧ w'.cell? ⟨bs, 1, none⟩ = some (.slice s.ja s.jn s.jc) ∧ w'.cell? { block := B.block, off := B.off + 7 } = some (.int .i64 j.inc)))) (by kernel_rfl) (by exact keep S9.drew) (fun hHeld => ?_)
        change wpAnyH _ _ _ _ _ 29 (Array.replicate 29 false) _ _
        refine wpAnyH_take (i := 0) (v := ?v1) (ops_at rfl) (by kernel_rfl) (by kernel_rfl) (by kernel_rfl) (fun _ _ _ h => h) (Or.inl ⟨by rfl, ?hy1⟩) (by assumption) ?rest1
        case hy1 => intro w' hSw; (try dsimp only at hSw); go_simp; try with_reducible rfl
        try simp only [Act.put, List.setIfInBounds_toArray, List.set_cons_zero, List.set_cons_succ]
        refine wpAnyH_take (i := 1) (v := ?v2) (ops_at rfl) (by kernel_rfl) (by kernel_rfl) (by kernel_rfl) (fun _ _ _ h => h) (Or.inl ⟨by rfl, ?hy2⟩) (by assumption) ?rest2
        case hy2 => intro w' hSw; (try dsimp only at hSw); go_simp; try with_reducible rfl
        try simp only [Act.put, List.setIfInBounds_toArray, List.set_cons_zero, List.set_cons_succ]
        refine wpAnyH_take (i := 2) (v := ?v3) (ops_at rfl) (by kernel_rfl) (by kernel_rfl) (by kernel_rfl) (fun _ _ _ h => h) (Or.inl ⟨by rfl, ?hy3⟩) (by assumption) ?rest3
        case hy3 => intro w' hSw; (try dsimp only at hSw); go_simp; try with_reducible rfl
        try simp only [Act.put, List.setIfInBounds_toArray, List.set_cons_zero, List.set_cons_succ]
        refine wpAnyH_take (i := 3) (v := ?v4) (ops_at rfl) (by kernel_rfl) (by kernel_rfl) (by kernel_rfl) (fun _ _ _ h => h) (Or.inl ⟨by rfl, ?hy4⟩) (by assumption) ?rest4
        case hy4 => intro w' hSw; (try dsimp only at hSw); go_simp; try with_reducible rfl
        try simp only [Act.put, List.setIfInBounds_toArray, List.set_cons_zero, List.set_cons_succ]
        refine wpAnyH_take (i := 4) (v := ?v5) (ops_at rfl) (by kernel_rfl) (by kernel_rfl) (by kernel_rfl) (fun _ _ _ h => h) (Or.inl ⟨by rfl, ?hy5⟩) (by assumption) ?rest5
        case hy5 => intro w' hSw; (try dsimp only at hSw); go_simp; try with_reducible rfl
        try simp only [Act.put, List.setIfInBounds_toArray, List.set_cons_zero, List.set_cons_succ]
        refine wpAnyH_take (i := 5) (v := ?v6) (ops_at rfl) (by kernel_rfl) (by kernel_rfl) (by kernel_rfl) (fun _ _ _ h => h) (Or.inl ⟨by rfl, ?hy6⟩) (by assumption) ?rest6
        case hy6 => intro w' hSw; (try dsimp only at hSw); go_simp; try with_reducible rfl
        try simp only [Act.put, List.setIfInBounds_toArray, List.set_cons_zero, List.set_cons_succ]
        refine wpAnyH_take (i := 6) (v := ?v7) (ops_at rfl) (by kernel_rfl) (by kernel_rfl) (by kernel_rfl) (fun _ _ _ h => h) (Or.inl ⟨by rfl, ?hy7⟩) (by assumption) ?rest7
        case hy7 => intro w' hSw; (try dsimp only at hSw); go_simp; try with_reducible rfl
        try simp only [Act.put, List.setIfInBounds_toArray, List.set_cons_zero, List.set_cons_succ]
        refine wpAnyH_take (i := 7) (v := ?v8) (ops_at rfl) (by kernel_rfl) (by kernel_rfl) (by kernel_rfl) (fun _ _ _ h => h) (Or.inl ⟨by rfl, ?hy8⟩) (by assumption) ?rest8
        case hy8 => intro w' hSw; (try dsimp only at hSw); go_simp; try with_reducible rfl
        try simp only [Act.put, List.setIfInBounds_toArray, List.set_cons_zero, List.set_cons_succ]
        refine wpAnyH_take (i := 8) (v := ?v9) (ops_at rfl) (by kernel_rfl) (by kernel_rfl) (by kernel_rfl) (fun _ _ _ h => h) (Or.inl ⟨by rfl, ?hy9⟩) (by assumption) ?rest9
        case hy9 => intro w' hSw; (try dsimp only at hSw); go_simp; try with_reducible rfl
        try simp only [Act.put, List.setIfInBounds_toArray, List.set_cons_zero, List.set_cons_succ]
        refine wpAnyH_take (i := 9) (v := ?v10) (ops_at rfl) (by kernel_rfl) (by kernel_rfl) (by kernel_rfl) (fun _ _ _ h => h) (Or.inl ⟨by rfl, ?hy10⟩) (by assumption) ?rest10
        case hy10 => intro w' hSw; (try dsimp only at hSw); go_simp; try with_reducible rfl
        try simp only [Act.put, List.setIfInBounds_toArray, List.set_cons_zero, List.set_cons_succ]
        refine wpAnyH_take (i := 10) (v := ?v11) (ops_at rfl) (by kernel_rfl) (by kernel_rfl) (by kernel_rfl) (fun _ _ _ h => h) (Or.inl ⟨by rfl, ?hy11⟩) (by assumption) ?rest11
        case hy11 => intro w' hSw; (try dsimp only at hSw); go_simp; try with_reducible rfl
        try simp only [Act.put, List.setIfInBounds_toArray, List.set_cons_zero, List.set_cons_succ]
        refine wpAnyH_take (i := 11) (v := ?v12) (ops_at rfl) (by kernel_rfl) (by kernel_rfl) (by kernel_rfl) (fun _ _ _ h => h) (Or.inl ⟨by rfl, ?hy12⟩) (by assumption) ?rest12
        case hy12 => intro w' hSw; (try dsimp only at hSw); go_simp; try with_reducible rfl
        try simp only [Act.put, List.setIfInBounds_toArray, List.set_cons_zero, List.set_cons_succ]
        refine wpAnyH_take (i := 12) (v := ?v13) (ops_at rfl) (by kernel_rfl) (by kernel_rfl) (by kernel_rfl) (fun _ _ _ h => h) (Or.inl ⟨by rfl, ?hy13⟩) (by assumption) ?rest13
        case hy13 => intro w' hSw; (try dsimp only at hSw); go_simp; try with_reducible rfl
        try simp only [Act.put, List.setIfInBounds_toArray, List.set_cons_zero, List.set_cons_succ]
        refine wpAnyH_take (i := 13) (v := ?v14) (ops_at rfl) (by kernel_rfl) (by kernel_rfl) (by kernel_rfl) (fun _ _ _ h => h) (Or.inl ⟨by rfl, ?hy14⟩) (by assumption) ?rest14
        case hy14 => intro w' hSw; (try dsimp only at hSw); go_simp; try with_reducible rfl
        try simp only [Act.put, List.setIfInBounds_toArray, List.set_cons_zero, List.set_cons_succ]
        refine wpAnyH_take (i := 14) (v := ?v15) (ops_at rfl) (by kernel_rfl) (by kernel_rfl) (by kernel_rfl) (fun _ _ _ h => h) (Or.inl ⟨by rfl, ?hy15⟩) (by assumption) ?rest15
        case hy15 => intro w' hSw; (try dsimp only at hSw); go_simp; try with_reducible rfl
        try simp only [Act.put, List.setIfInBounds_toArray, List.set_cons_zero, List.set_cons_succ]
        refine wpAnyH_take (i := 15) (v := ?v16) (ops_at rfl) (by kernel_rfl) (by kernel_rfl) (by kernel_rfl) (fun _ _ _ h => h) (Or.inl ⟨by rfl, ?hy16⟩) (by assumption) ?rest16
        case hy16 => intro w' hSw; (try dsimp only at hSw); go_simp; try with_reducible rfl
        try simp only [Act.put, List.setIfInBounds_toArray, List.set_cons_zero, List.set_cons_succ]
        refine wpAnyH_take (i := 16) (v := ?v17) (ops_at rfl) (by kernel_rfl) (by kernel_rfl) (by kernel_rfl) (fun _ _ _ h => h) (Or.inl ⟨by rfl, ?hy17⟩) (by assumption) ?rest17
        case hy17 => intro w' hSw; (try dsimp only at hSw); go_simp; try with_reducible rfl
        try simp only [Act.put, List.setIfInBounds_toArray, List.set_cons_zero, List.set_cons_succ]
        refine wpAnyH_take (i := 17) (v := ?v18) (ops_at rfl) (by kernel_rfl) (by kernel_rfl) (by kernel_rfl) (fun _ _ _ h => h) (Or.inl ⟨by rfl, ?hy18⟩) (by assumption) ?rest18
        case hy18 => intro w' hSw; (try dsimp only at hSw); go_simp; try with_reducible rfl
        try simp only [Act.put, List.setIfInBounds_toArray, List.set_cons_zero, List.set_cons_succ]
        refine wpAnyH_take (i := 18) (v := ?v19) (ops_at rfl) (by kernel_rfl) (by kernel_rfl) (by kernel_rfl) (fun _ _ _ h => h) (Or.inl ⟨by rfl, ?hy19⟩) (by assumption) ?rest19
        case hy19 => intro w' hSw; (try dsimp only at hSw); go_simp; try with_reducible rfl
        try simp only [Act.put, List.setIfInBounds_toArray, List.set_cons_zero, List.set_cons_succ]
        refine wpAnyH_take (i := 19) (v := ?v20) (ops_at rfl) (by kernel_rfl) (by kernel_rfl) (by kernel_rfl) (fun _ _ _ h => h) (Or.inl ⟨by rfl, ?hy20⟩) (by assumption) ?rest20
        case hy20 => intro w' hSw; (try dsimp only at hSw); go_simp; try with_reducible rfl
        try simp only [Act.put, List.setIfInBounds_toArray, List.set_cons_zero, List.set_cons_succ]
        refine wpAnyH_take (i := 20) (v := ?v21) (ops_at rfl) (by kernel_rfl) (by kernel_rfl) (by kernel_rfl) (fun _ _ _ h => h) (Or.inl ⟨by rfl, ?hy21⟩) (by assumption) ?rest21
        case hy21 => intro w' hSw; (try dsimp only at hSw); go_simp; try with_reducible rfl
        try simp only [Act.put, List.setIfInBounds_toArray, List.set_cons_zero, List.set_cons_succ]
        refine wpAnyH_take (i := 21) (v := ?v22) (ops_at rfl) (by kernel_rfl) (by kernel_rfl) (by kernel_rfl) (fun _ _ _ h => h) (Or.inl ⟨by rfl, ?hy22⟩) (by assumption) ?rest22
        case hy22 => intro w' hSw; (try dsimp only at hSw); go_simp; try with_reducible rfl
        try simp only [Act.put, List.setIfInBounds_toArray, List.set_cons_zero, List.set_cons_succ]
        refine wpAnyH_take (i := 22) (v := ?v23) (ops_at rfl) (by kernel_rfl) (by kernel_rfl) (by kernel_rfl) (fun _ _ _ h => h) (Or.inl ⟨by rfl, ?hy23⟩) (by assumption) ?rest23
        case hy23 => intro w' hSw; (try dsimp only at hSw); go_simp; try with_reducible rfl
        try simp only [Act.put, List.setIfInBounds_toArray, List.set_cons_zero, List.set_cons_succ]
        refine wpAnyH_take (i := 23) (v := ?v24) (ops_at rfl) (by kernel_rfl) (by kernel_rfl) (by kernel_rfl) (fun _ _ _ h => h) (Or.inl ⟨by rfl, ?hy24⟩) (by assumption) ?rest24
        case hy24 => intro w' hSw; (try dsimp only at hSw); go_simp; try with_reducible rfl
        try simp only [Act.put, List.setIfInBounds_toArray, List.set_cons_zero, List.set_cons_succ]
        refine wpAnyH_take (i := 24) (v := ?v25) (ops_at rfl) (by kernel_rfl) (by kernel_rfl) (by kernel_rfl) (fun _ _ _ h => h) (Or.inl ⟨by rfl, ?hy25⟩) (by assumption) ?rest25
        case hy25 => intro w' hSw; (try dsimp only at hSw); go_simp; try with_reducible rfl
        try simp only [Act.put, List.setIfInBounds_toArray, List.set_cons_zero, List.set_cons_succ]
        refine wpAnyH_take (i := 25) (v := ?v26) (ops_at rfl) (by kernel_rfl) (by kernel_rfl) (by kernel_rfl) (fun _ _ _ h => h) (Or.inl ⟨by rfl, ?hy26⟩) (by assumption) ?rest26
        case hy26 => intro w' hSw; (try dsimp only at hSw); go_simp; try with_reducible rfl
        try simp only [Act.put, List.setIfInBounds_toArray, List.set_cons_zero, List.set_cons_succ]
        refine wpAnyH_take (i := 26) (v := ?v27) (ops_at rfl) (by kernel_rfl) (by kernel_rfl) (by kernel_rfl) (fun _ _ _ h => h) (Or.inl ⟨by rfl, ?hy27⟩) (by assumption) ?rest27
        case hy27 => intro w' hSw; (try dsimp only at hSw); go_simp; try with_reducible rfl
        try simp only [Act.put, List.setIfInBounds_toArray, List.set_cons_zero, List.set_cons_succ]
        refine wpAnyH_take (i := 27) (v := ?v28) (ops_at rfl) (by kernel_rfl) (by kernel_rfl) (by kernel_rfl) (fun _ _ _ h => h) (Or.inl ⟨by rfl, ?hy28⟩) (by assumption) ?rest28
        case hy28 => intro w' hSw; (try dsimp only at hSw); go_simp; try with_reducible rfl
        try simp only [Act.put, List.setIfInBounds_toArray, List.set_cons_zero, List.set_cons_succ]
        refine wpAnyH_take (i := 28) (v := ?v29) (ops_at rfl) (by kernel_rfl) (by kernel_rfl) (by kernel_rfl) (fun _ _ _ h => h) (Or.inl ⟨by rfl, ?hy29⟩) (by assumption) ?rest29
        case hy29 => intro w' hSw; (try dsimp only at hSw); go_simp; try with_reducible rfl
        try simp only [Act.put, List.setIfInBounds_toArray, List.set_cons_zero, List.set_cons_succ]
        refine wpAnyH_done (by kernel_rfl) ?_ _
        have S10 := S9.drew
        have y9 := S10.cell 4 rfl 9 rfl
        clear keep S9 hHeld
        go_wp2
        go_roundw
        case rel => exact ⟨i + 1, m, by omega, by rw [HC2.out]; (try go_num), by rw [HW2.out, HM.out]; (try go_num), by go_num, (fun h => by rw [HC2.out] at h; omega), (fun _ => HFk.out), S10.take 4⟩
        case measure => simp [intOf]; omega
      · obtain ⟨f1, f2⟩ := HF1.out (by omega)
        have HFk : Hid (F.kind = kindJ j ∧ F.inc = j.inc) := ⟨f1, f2⟩
        have q1 : (m.kind != F.kind) = false := by rw [m1, f1]; simp
        have q2 : (m.inc != F.inc) = false := by rw [m2, f2]; simp
        have gz : ((cntB j.nodes i : Int) == 0) = false := by simpa using hz
        clear hb hu hj HO HO1 HO2 HO3 HOj HC HWs hm m1 m2 m3 m4 m5 hz HF0 HF1 f1 f2
        go_wp2_with fail
        generalize w7.heap.size = g10 at *
        generalize w7.alloc _ = w9 at *
        have S9 := S8
        clear S8 S7 y0 y1 y2 y3 y4 y5 x0 x1 x2 x3 x4 i0
        have keep : ∀ {w' : World}, St w w' [cellsT g8 23 F.cs, cellsT bc 29 c.cs, cellsT bs 33 s.cs, soT (.pointer none) none, cellsT g10 23 m.cs] → (w'.cell? ⟨g10, 1, none⟩ = some (.int .i64 m.kind) ∧ w'.cell? ⟨g10, 5, none⟩ = some (.int .i64 m.inc) ∧ w'.cell? ⟨g10, 0, none⟩ = some (.int .i64 m.node) ∧ w'.cell? ⟨g8, 1, none⟩ = some (.int .i64 F.kind) ∧ w'.cell? ⟨g8, 5, none⟩ = some (.int .i64 F.inc) ∧ w'.cell? ⟨bs, 1, none⟩ = some (.slice s.ja s.jn s.jc) ∧ w'.cell? { block := B.block, off := B.off + 7 } = some (.int .i64 j.inc)) := fun S => ⟨S.cell 4 rfl 1 rfl, S.cell 4 rfl 5 rfl, S.cell 4 rfl 0 rfl, S.cell 0 rfl 1 rfl, S.cell 0 rfl 5 rfl, S.cell 2 rfl 1 rfl, (HB.out _ S.fin).2.2.2.2.2.2.2.1⟩
        refine wp_region_held_drew (S := (fun w' => (w'.cell? ⟨g10, 1, none⟩ = some (.int .i64 m.kind) ∧ w'.cell? ⟨g10, 5, none⟩ = some (.int .i64 m.inc) ∧ w'.cell? ⟨g10, 0, none⟩ = some (.int .i64 m.node) ∧ w'.cell? ⟨g8, 1, none⟩ = some (.int .i64 F.kind) ∧ w'.cell? ⟨g8, 5, none⟩ = some (.int .i64 F.inc) ∧ w'.cell? ⟨bs, 1, none⟩ = some (.slice s.ja s.jn s.jc) ∧ w'.cell? { block := B.block, off := B.off + 7 } = some (.int .i64 j.inc)))) (by kernel_rfl) (by exact keep S9.drew) (fun hHeld => ?_)
        change wpAnyH _ _ _ _ _ 29 (Array.replicate 29 false) _ _
        refine wpAnyH_take (i := 0) (v := ?v30) (ops_at rfl) (by kernel_rfl) (by kernel_rfl) (by kernel_rfl) (fun _ _ _ h => h) (Or.inl ⟨by rfl, ?hy30⟩) (by assumption) ?rest30
        case hy30 => intro w' hSw; (try dsimp only at hSw); go_simp; try with_reducible rfl
        try simp only [Act.put, List.setIfInBounds_toArray, List.set_cons_zero, List.set_cons_succ]
        refine wpAnyH_take (i := 1) (v := ?v31) (ops_at rfl) (by kernel_rfl) (by kernel_rfl) (by kernel_rfl) (fun _ _ _ h => h) (Or.inl ⟨by rfl, ?hy31⟩) (by assumption) ?rest31
        case hy31 => intro w' hSw; (try dsimp only at hSw); go_simp; try with_reducible rfl
        try simp only [Act.put, List.setIfInBounds_toArray, List.set_cons_zero, List.set_cons_succ]
        refine wpAnyH_take (i := 2) (v := ?v32) (ops_at rfl) (by kernel_rfl) (by kernel_rfl) (by kernel_rfl) (fun _ _ _ h => h) (Or.inl ⟨by rfl, ?hy32⟩) (by assumption) ?rest32
        case hy32 => intro w' hSw; (try dsimp only at hSw); go_simp; try with_reducible rfl
        try simp only [Act.put, List.setIfInBounds_toArray, List.set_cons_zero, List.set_cons_succ]
        refine wpAnyH_take (i := 3) (v := ?v33) (ops_at rfl) (by kernel_rfl) (by kernel_rfl) (by kernel_rfl) (fun _ _ _ h => h) (Or.inl ⟨by rfl, ?hy33⟩) (by assumption) ?rest33
        case hy33 => intro w' hSw; (try dsimp only at hSw); go_simp; try with_reducible rfl
        try simp only [Act.put, List.setIfInBounds_toArray, List.set_cons_zero, List.set_cons_succ]
        refine wpAnyH_take (i := 4) (v := ?v34) (ops_at rfl) (by kernel_rfl) (by kernel_rfl) (by kernel_rfl) (fun _ _ _ h => h) (Or.inl ⟨by rfl, ?hy34⟩) (by assumption) ?rest34
        case hy34 => intro w' hSw; (try dsimp only at hSw); go_simp; try with_reducible rfl
        try simp only [Act.put, List.setIfInBounds_toArray, List.set_cons_zero, List.set_cons_succ]
        refine wpAnyH_take (i := 5) (v := ?v35) (ops_at rfl) (by kernel_rfl) (by kernel_rfl) (by kernel_rfl) (fun _ _ _ h => h) (Or.inl ⟨by rfl, ?hy35⟩) (by assumption) ?rest35
        case hy35 => intro w' hSw; (try dsimp only at hSw); go_simp; try with_reducible rfl
        try simp only [Act.put, List.setIfInBounds_toArray, List.set_cons_zero, List.set_cons_succ]
        refine wpAnyH_take (i := 6) (v := ?v36) (ops_at rfl) (by kernel_rfl) (by kernel_rfl) (by kernel_rfl) (fun _ _ _ h => h) (Or.inl ⟨by rfl, ?hy36⟩) (by assumption) ?rest36
        case hy36 => intro w' hSw; (try dsimp only at hSw); go_simp; try with_reducible rfl
        try simp only [Act.put, List.setIfInBounds_toArray, List.set_cons_zero, List.set_cons_succ]
        refine wpAnyH_take (i := 7) (v := ?v37) (ops_at rfl) (by kernel_rfl) (by kernel_rfl) (by kernel_rfl) (fun _ _ _ h => h) (Or.inl ⟨by rfl, ?hy37⟩) (by assumption) ?rest37
        case hy37 => intro w' hSw; (try dsimp only at hSw); go_simp; try with_reducible rfl
        try simp only [Act.put, List.setIfInBounds_toArray, List.set_cons_zero, List.set_cons_succ]
        refine wpAnyH_take (i := 8) (v := ?v38) (ops_at rfl) (by kernel_rfl) (by kernel_rfl) (by kernel_rfl) (fun _ _ _ h => h) (Or.inl ⟨by rfl, ?hy38⟩) (by assumption) ?rest38
        case hy38 => intro w' hSw; (try dsimp only at hSw); go_simp; try with_reducible rfl
        try simp only [Act.put, List.setIfInBounds_toArray, List.set_cons_zero, List.set_cons_succ]
        refine wpAnyH_take (i := 9) (v := ?v39) (ops_at rfl) (by kernel_rfl) (by kernel_rfl) (by kernel_rfl) (fun _ _ _ h => h) (Or.inl ⟨by rfl, ?hy39⟩) (by assumption) ?rest39
        case hy39 => intro w' hSw; (try dsimp only at hSw); go_simp; try with_reducible rfl
        try simp only [Act.put, List.setIfInBounds_toArray, List.set_cons_zero, List.set_cons_succ]
        refine wpAnyH_take (i := 10) (v := ?v40) (ops_at rfl) (by kernel_rfl) (by kernel_rfl) (by kernel_rfl) (fun _ _ _ h => h) (Or.inl ⟨by rfl, ?hy40⟩) (by assumption) ?rest40
        case hy40 => intro w' hSw; (try dsimp only at hSw); go_simp; try with_reducible rfl
        try simp only [Act.put, List.setIfInBounds_toArray, List.set_cons_zero, List.set_cons_succ]
        refine wpAnyH_take (i := 11) (v := ?v41) (ops_at rfl) (by kernel_rfl) (by kernel_rfl) (by kernel_rfl) (fun _ _ _ h => h) (Or.inl ⟨by rfl, ?hy41⟩) (by assumption) ?rest41
        case hy41 => intro w' hSw; (try dsimp only at hSw); go_simp; try with_reducible rfl
        try simp only [Act.put, List.setIfInBounds_toArray, List.set_cons_zero, List.set_cons_succ]
        refine wpAnyH_take (i := 12) (v := ?v42) (ops_at rfl) (by kernel_rfl) (by kernel_rfl) (by kernel_rfl) (fun _ _ _ h => h) (Or.inl ⟨by rfl, ?hy42⟩) (by assumption) ?rest42
        case hy42 => intro w' hSw; (try dsimp only at hSw); go_simp; try with_reducible rfl
        try simp only [Act.put, List.setIfInBounds_toArray, List.set_cons_zero, List.set_cons_succ]
        refine wpAnyH_take (i := 13) (v := ?v43) (ops_at rfl) (by kernel_rfl) (by kernel_rfl) (by kernel_rfl) (fun _ _ _ h => h) (Or.inl ⟨by rfl, ?hy43⟩) (by assumption) ?rest43
        case hy43 => intro w' hSw; (try dsimp only at hSw); go_simp; try with_reducible rfl
        try simp only [Act.put, List.setIfInBounds_toArray, List.set_cons_zero, List.set_cons_succ]
        refine wpAnyH_take (i := 14) (v := ?v44) (ops_at rfl) (by kernel_rfl) (by kernel_rfl) (by kernel_rfl) (fun _ _ _ h => h) (Or.inl ⟨by rfl, ?hy44⟩) (by assumption) ?rest44
        case hy44 => intro w' hSw; (try dsimp only at hSw); go_simp; try with_reducible rfl
        try simp only [Act.put, List.setIfInBounds_toArray, List.set_cons_zero, List.set_cons_succ]
        refine wpAnyH_take (i := 15) (v := ?v45) (ops_at rfl) (by kernel_rfl) (by kernel_rfl) (by kernel_rfl) (fun _ _ _ h => h) (Or.inl ⟨by rfl, ?hy45⟩) (by assumption) ?rest45
        case hy45 => intro w' hSw; (try dsimp only at hSw); go_simp; try with_reducible rfl
        try simp only [Act.put, List.setIfInBounds_toArray, List.set_cons_zero, List.set_cons_succ]
        refine wpAnyH_take (i := 16) (v := ?v46) (ops_at rfl) (by kernel_rfl) (by kernel_rfl) (by kernel_rfl) (fun _ _ _ h => h) (Or.inl ⟨by rfl, ?hy46⟩) (by assumption) ?rest46
        case hy46 => intro w' hSw; (try dsimp only at hSw); go_simp; try with_reducible rfl
        try simp only [Act.put, List.setIfInBounds_toArray, List.set_cons_zero, List.set_cons_succ]
        refine wpAnyH_take (i := 17) (v := ?v47) (ops_at rfl) (by kernel_rfl) (by kernel_rfl) (by kernel_rfl) (fun _ _ _ h => h) (Or.inl ⟨by rfl, ?hy47⟩) (by assumption) ?rest47
        case hy47 => intro w' hSw; (try dsimp only at hSw); go_simp; try with_reducible rfl
        try simp only [Act.put, List.setIfInBounds_toArray, List.set_cons_zero, List.set_cons_succ]
        refine wpAnyH_take (i := 18) (v := ?v48) (ops_at rfl) (by kernel_rfl) (by kernel_rfl) (by kernel_rfl) (fun _ _ _ h => h) (Or.inl ⟨by rfl, ?hy48⟩) (by assumption) ?rest48
        case hy48 => intro w' hSw; (try dsimp only at hSw); go_simp; try with_reducible rfl
        try simp only [Act.put, List.setIfInBounds_toArray, List.set_cons_zero, List.set_cons_succ]
        refine wpAnyH_take (i := 19) (v := ?v49) (ops_at rfl) (by kernel_rfl) (by kernel_rfl) (by kernel_rfl) (fun _ _ _ h => h) (Or.inl ⟨by rfl, ?hy49⟩) (by assumption) ?rest49
        case hy49 => intro w' hSw; (try dsimp only at hSw); go_simp; try with_reducible rfl
        try simp only [Act.put, List.setIfInBounds_toArray, List.set_cons_zero, List.set_cons_succ]
        refine wpAnyH_take (i := 20) (v := ?v50) (ops_at rfl) (by kernel_rfl) (by kernel_rfl) (by kernel_rfl) (fun _ _ _ h => h) (Or.inl ⟨by rfl, ?hy50⟩) (by assumption) ?rest50
        case hy50 => intro w' hSw; (try dsimp only at hSw); go_simp; try with_reducible rfl
        try simp only [Act.put, List.setIfInBounds_toArray, List.set_cons_zero, List.set_cons_succ]
        refine wpAnyH_take (i := 21) (v := ?v51) (ops_at rfl) (by kernel_rfl) (by kernel_rfl) (by kernel_rfl) (fun _ _ _ h => h) (Or.inl ⟨by rfl, ?hy51⟩) (by assumption) ?rest51
        case hy51 => intro w' hSw; (try dsimp only at hSw); go_simp; try with_reducible rfl
        try simp only [Act.put, List.setIfInBounds_toArray, List.set_cons_zero, List.set_cons_succ]
        refine wpAnyH_take (i := 22) (v := ?v52) (ops_at rfl) (by kernel_rfl) (by kernel_rfl) (by kernel_rfl) (fun _ _ _ h => h) (Or.inl ⟨by rfl, ?hy52⟩) (by assumption) ?rest52
        case hy52 => intro w' hSw; (try dsimp only at hSw); go_simp; try with_reducible rfl
        try simp only [Act.put, List.setIfInBounds_toArray, List.set_cons_zero, List.set_cons_succ]
        refine wpAnyH_take (i := 23) (v := ?v53) (ops_at rfl) (by kernel_rfl) (by kernel_rfl) (by kernel_rfl) (fun _ _ _ h => h) (Or.inl ⟨by rfl, ?hy53⟩) (by assumption) ?rest53
        case hy53 => intro w' hSw; (try dsimp only at hSw); go_simp; try with_reducible rfl
        try simp only [Act.put, List.setIfInBounds_toArray, List.set_cons_zero, List.set_cons_succ]
        refine wpAnyH_take (i := 24) (v := ?v54) (ops_at rfl) (by kernel_rfl) (by kernel_rfl) (by kernel_rfl) (fun _ _ _ h => h) (Or.inl ⟨by rfl, ?hy54⟩) (by assumption) ?rest54
        case hy54 => intro w' hSw; (try dsimp only at hSw); go_simp; try with_reducible rfl
        try simp only [Act.put, List.setIfInBounds_toArray, List.set_cons_zero, List.set_cons_succ]
        refine wpAnyH_take (i := 25) (v := ?v55) (ops_at rfl) (by kernel_rfl) (by kernel_rfl) (by kernel_rfl) (fun _ _ _ h => h) (Or.inl ⟨by rfl, ?hy55⟩) (by assumption) ?rest55
        case hy55 => intro w' hSw; (try dsimp only at hSw); go_simp; try with_reducible rfl
        try simp only [Act.put, List.setIfInBounds_toArray, List.set_cons_zero, List.set_cons_succ]
        refine wpAnyH_take (i := 26) (v := ?v56) (ops_at rfl) (by kernel_rfl) (by kernel_rfl) (by kernel_rfl) (fun _ _ _ h => h) (Or.inl ⟨by rfl, ?hy56⟩) (by assumption) ?rest56
        case hy56 => intro w' hSw; (try dsimp only at hSw); go_simp; try with_reducible rfl
        try simp only [Act.put, List.setIfInBounds_toArray, List.set_cons_zero, List.set_cons_succ]
        refine wpAnyH_take (i := 27) (v := ?v57) (ops_at rfl) (by kernel_rfl) (by kernel_rfl) (by kernel_rfl) (fun _ _ _ h => h) (Or.inl ⟨by rfl, ?hy57⟩) (by assumption) ?rest57
        case hy57 => intro w' hSw; (try dsimp only at hSw); go_simp; try with_reducible rfl
        try simp only [Act.put, List.setIfInBounds_toArray, List.set_cons_zero, List.set_cons_succ]
        refine wpAnyH_take (i := 28) (v := ?v58) (ops_at rfl) (by kernel_rfl) (by kernel_rfl) (by kernel_rfl) (fun _ _ _ h => h) (Or.inl ⟨by rfl, ?hy58⟩) (by assumption) ?rest58
        case hy58 => intro w' hSw; (try dsimp only at hSw); go_simp; try with_reducible rfl
        try simp only [Act.put, List.setIfInBounds_toArray, List.set_cons_zero, List.set_cons_succ]
        refine wpAnyH_done (by kernel_rfl) ?_ _
        have S10 := S9.drew
        have y9 := S10.cell 4 rfl 9 rfl
        clear keep S9 hHeld
        go_wp2
        go_roundw
        case rel => exact ⟨i + 1, F, by omega, by rw [HC2.out]; (try go_num), by rw [HW2.out, HM.out]; (try go_num), by go_num, (fun h => by rw [HC2.out] at h; omega), (fun _ => HFk.out), S10.take 4⟩
        case measure => simp [intOf]; omega
end Go.Proofs.YtilobmefomoemaaDoor
