/- WishTells: the law. -/
import Derived.Test.YtilobmefomoemaaDoorWish6
import Derived.Test.YtilobmefomoemaaDoorStoreLaw6
namespace Go.Proofs.YtilobmefomoemaaDoor
set_option linter.unusedVariables false
set_option linter.unusedSimpArgs false
open Go.RowKit
def wData (n : Int) : List UInt8 := codeText (codeNum n)
theorem wData_len (n : Int) (h : isNum n = true) : (wData n).length ≠ 0 ∧ (wData n).length ≤ 16 := by
  unfold wData codeText
  rw [List.length_append]
  have h1 := codeNum_len n
  have h2 := codeNum_len ((codeNum n).length : Int)
  have h3 : (codeNum n).length ≠ 0 := fun h0 => by
    have := (codeNum_nil n).1 (List.length_eq_zero_iff.1 h0)
    rw [h] at this; cases this
  omega
theorem wHadD_data (n : Int) (h0 : 0 ≤ n) (h1 : n ≤ 1000) : wHadD (wData n) = n := by
  have hN : isNum n = true := by unfold isNum; exact decide_eq_true ⟨h0, by omega⟩
  have hL : isNum ((codeNum n).length : Int) = true := by
    have := codeNum_len n
    unfold isNum; exact decide_eq_true ⟨by omega, by omega⟩
  have g1 := getText_put (codeNum n) [] hL
  have g2 := getNum_put [] [] n hN
  simp only [List.append_nil, List.nil_append, List.length_nil, Nat.zero_add] at g1 g2
  unfold wHadD wData
  rw [g1]
  have g2' : getNum (codeNum n) 0 = some (n.toNat, (codeNum n).length) := g2
  simp only [if_true]
  rw [g2']
  simp only [if_true]
  omega
theorem s500_stage (j e : Int) (a : List UInt8) (hj : jobOk j) (h1 : 1 ≤ e) (h2 : e ≤ 1000000) (h3 : a.length ≠ 0) (h4 : a.length ≤ 100) : sStage (SS.new 500) 0 j e a = (0, { (SS.new 500).put j ⟨0, [], e, a⟩ with writes := 1 }) := by
  have ht : (SS.new 500).term = 0 := rfl
  have hr : (SS.new 500).room = 500 := rfl
  have hu : usedP (SS.new 500).js = 0 := by kernel_rfl
  have hjb : (SS.new 500).job j = PS.nil := by
    unfold SS.job SS.new
    simp only [List.getD]
    rcases Nat.lt_or_ge j.toNat 25 with h | h
    · rw [List.getElem?_replicate, if_pos h]; rfl
    · rw [List.getElem?_replicate, if_neg (by omega)]; rfl
  unfold sStage
  rw [ht, if_neg (by omega), if_neg (by simp only [not_or, Decidable.not_not]; exact ⟨hj, by omega, by omega, h3, by omega⟩), hjb, if_neg (by show ¬ (e ≤ 0 ∨ e < 0); omega), if_neg (by show ¬ e = 0; omega), hu, hr, if_neg (by show ¬ ((500 : Int) < ((0 : Nat) : Int) - ((([] : List UInt8).length : Nat) : Int) + (a.length : Int)); simp; omega)]
  rfl
theorem s500_get (j e : Int) (a : List UInt8) (hj : jobOk j) (h1 : 1 ≤ e) : sGet { (SS.new 500).put j ⟨0, [], e, a⟩ with writes := 1 } j e = some a := by
  have hb : SS.job { (SS.new 500).put j ⟨0, [], e, a⟩ with writes := 1 } j = ⟨0, [], e, a⟩ := by
    have hj' := hj
    unfold jobOk at hj'
    unfold SS.job SS.put
    simp only [List.getD]
    rw [List.getElem?_set_self (by show j.toNat < (List.replicate 25 PS.nil).length; simp; omega)]
    rfl
  unfold sGet
  rw [if_neg (by simp only [not_or, Decidable.not_not]; exact ⟨hj, by omega⟩), hb, if_neg (by show ¬ (0 : Int) = e; omega), if_pos rfl]
theorem wHad_nil (s : STA) (j : JB) (J : Nat) (hJ : s.J[J]? = some j) (hl : J < s.jn) (o : Option SS) (he : j.epoch = 0) : wHad s ((J : Int) + 1) o = 0 := by
  rw [wHad, if_neg (by omega), show ((J : Int) + 1 - 1).toNat = J by omega, hJ]
  simp only [he, if_true]
theorem wHad_some (s : STA) (j : JB) (J : Nat) (hJ : s.J[J]? = some j) (hl : J < s.jn) (hj : jobOk ((J : Int) + 1)) (he : 1 ≤ j.epoch) (n : Int) (h0 : 0 ≤ n) (h1 : n ≤ 1000) :
    wHad s ((J : Int) + 1) (some { (SS.new 500).put ((J : Int) + 1) ⟨0, [], j.epoch, wData n⟩ with writes := 1 }) = n := by
  rw [wHad, if_neg (by omega), show ((J : Int) + 1 - 1).toNat = J by omega, hJ]
  simp only [if_neg (show ¬ j.epoch = 0 by omega)]
  rw [show oGet (some { (SS.new 500).put ((J : Int) + 1) ⟨0, [], j.epoch, wData n⟩ with writes := 1 }) ((J : Int) + 1) j.epoch = some (wData n) from s500_get _ _ _ hj he]
  exact wHadD_data n h0 h1
/-- An order to work tells what its job had worked. -/
theorem wOrder_work {s : STA} {K : Int} {o : Option SS} {m : Msg} (h : wOrder s K o = some m) (hk : m.kind = 3) : ∃ j, s.J[(m.job - 1).toNat]? = some j ∧ m.epoch = j.epoch ∧ m.work = wHad s m.job o := by
  unfold wOrder at h
  split at h
  · cases h
  · split at h
    · cases h
    · rename_i x hx
      split at h
      · simp only [Option.some.injEq] at h
        subst h
        unfold wOrderN at hk ⊢
        split at hk
        · simp only [wKind] at hk
          split at hk <;> omega
        · rename_i hj
          rw [if_neg hj]
          rcases hx : s.J[(x.job - 1).toNat]? with _ | j
          · rw [hx] at hk; simp [Msg.zero] at hk
          · rw [hx] at hk
            simp only at hk ⊢
            unfold wOrderJ at hk ⊢
            split at hk
            · rename_i h2
              rw [if_pos h2]
              exact ⟨j, hx, rfl, rfl⟩
            · split at hk
              · simp at hk
              · split at hk <;> simp at hk
      · cases h
set_option maxRecDepth 10000 in
set_option maxHeartbeats 6400000 in
theorem wishTells_law (c : CF) (s : STA) (job worked : Int) (w : World) (hs : s.At w) (hT : TabOk w) : Calls Tryd.prog 6 #[.agg #[.int .i64 c.nodes, .int .i64 c.queues, .int .i64 c.quota, .int .i64 c.wave, .int .i64 c.lease, .int .i64 c.retry, .int .i64 c.deadline, .int .i64 c.room, .int .i64 c.disk], .agg #[.slice s.na s.nn s.nc, .slice s.ja s.jn s.jc, .int .i64 s.goal, .int .i64 s.prior, .int .i64 s.mode, .int .i64 s.term], .int .i64 job, .int .i64 worked] w fun e w' => e = .returned (.bool true) ∧ Below w.heap.size w w' := by
  have S1 : St w _ [cellsT w.heap.size 29 c.cs, cellsT (w.heap.size + 1) 33 s.cs] := ((St.start w).newAt 29 #[.int .i64 c.nodes, .int .i64 c.queues, .int .i64 c.quota, .int .i64 c.wave, .int .i64 c.lease, .int .i64 c.retry, .int .i64 c.deadline, .int .i64 c.room, .int .i64 c.disk] w.heap.size rfl).newAt 33 #[.slice s.na s.nn s.nc, .slice s.ja s.jn s.jc, .int .i64 s.goal, .int .i64 s.prior, .int .i64 s.mode, .int .i64 s.term] (w.heap.size + 1) (alloc_size _ _)
  have HS := hid hs
  have HT := hid hT
  clear hs hT
  go_enter Tryd.func6, Tryd.ntmps6
  go_wp2_with fail
  generalize w.heap.size + 1 = bs at *
  generalize w.heap.size = bc at *
  generalize (w.alloc _).alloc _ = w1 at *
  refine (alive19_any _ (HT.out.all S1.fin)).mono ?_
  rintro e w2 ⟨rfl, hb2⟩
  have S2 := S1.grow hb2
  clear S1 hb2
  obtain ⟨y0, y1, y2, y3, y4, y5⟩ := S2.sC 1 rfl
  obtain ⟨x0, x1, x2, x3, x4, x5, x6, x7, x8⟩ := S2.cfC 0 rfl
  go_wp2_with fail
  refine (bkRight _ c s (HS.out.all S2.fin)).mono ?_
  rintro e w3 ⟨b, rfl, hF, hb3⟩
  have S3 := S2.grow hb3
  clear y0 y1 y2 y3 y4 y5 x0 x1 x2 x3 x4 x5 x6 x7 x8 S2 hb3
  cases b
  · go_wp2
    go_ret
    exact ⟨rfl, S3.fin⟩
  have HF := hid (hF rfl)
  clear hF
  have h6 : s.nn ≤ 6 := by have h1 := HF.out.nn; have h2 := HF.out.conf.nodes; omega
  have hjn := HF.out.jn
  obtain ⟨y0, y1, y2, y3, y4, y5⟩ := S3.sC 1 rfl
  by_cases c1 : job < 1
  · have g1 : decide (job < 1) = true := decide_eq_true c1
    clear c1
    go_wp2
    go_ret
    exact ⟨rfl, S3.fin⟩
  by_cases c2 : (s.jn : Int) < job
  · have g1 : decide (job < 1) = false := decide_eq_false c1
    have g2 : decide ((s.jn : Int) < job) = true := decide_eq_true c2
    clear c1 c2
    go_wp2
    go_ret
    exact ⟨rfl, S3.fin⟩
  obtain ⟨J, rfl⟩ : ∃ J : Nat, job = J + 1 := ⟨(job - 1).toNat, by omega⟩
  have hJn : J < s.jn := by omega
  have g1 : decide ((J : Int) + 1 < 1) = false := decide_eq_false c1
  have g2 : decide ((s.jn : Int) < (J : Int) + 1) = false := decide_eq_false c2
  clear c1 c2
  by_cases c3 : worked < 0
  · have g3 : decide (worked < 0) = true := decide_eq_true c3
    clear c3
    go_wp2
    go_ret
    exact ⟨rfl, S3.fin⟩
  have g3 : decide (worked < 0) = false := decide_eq_false c3
  by_cases c4 : 1000 < worked
  · have g4 : decide (1000 < worked) = true := decide_eq_true c4
    clear c3 c4
    go_wp2
    go_ret
    exact ⟨rfl, S3.fin⟩
  have g4 : decide (1000 < worked) = false := decide_eq_false c4
  go_wp2_with fail
  refine (stNew_any S3 500).mono ?_
  rintro e w4 ⟨rfl, S4⟩
  generalize w3.heap.size = gt at *
  clear y0 y1 y2 y3 y4 y5 S3
  obtain ⟨y0, y1, y2, y3, y4, y5⟩ := S4.sC 1 rfl
  have hlJ : J < s.J.length := by rw [HS.out.jn]; exact hJn
  have i0 := fun wx => idxJB s.ja s.jn s.jc (fun h => HS.out.j.ok (by rw [HS.out.jn]; exact h)) J J rfl hJn wx
  obtain ⟨j, hj⟩ : ∃ j, s.J[J] = j := ⟨_, rfl⟩
  have HJ : Hid (s.J[J]? = some j) := by rw [Hid, List.getElem?_eq_getElem hlJ, hj]
  have hep := (HF.out.job J hlJ).epoch
  have hinc := (HF.out.job J hlJ).inc
  have jc := ((HS.out.all S4.fin).j.jbAt hlJ).2.2.2.2.2.2.2.2.2.2.2
  rw [hj] at hep hinc jc
  generalize adr s.ja (J * 12) = A at *
  obtain ⟨ep, he⟩ : ∃ ep, j.epoch = ep := ⟨_, rfl⟩
  rw [he] at hep jc
  have HE := hid he
  have hjob : jobOk ((J : Int) + 1) := by unfold jobOk; omega
  clear he hj
  by_cases c5 : ep = 0
  · have HW : Hid (wHad s ((J : Int) + 1) (some (SS.new 500)) = 0) := wHad_nil s j J HJ.out hJn _ (by rw [HE.out]; exact c5)
    have g5 : decide (0 < ep) = false := decide_eq_false (by omega)
    have g6 : (ep == 0) = true := by simpa using c5
    clear c5 hep hinc
    go_wp2_with fail
    have S6 : St w _ [cellsT bc 29 c.cs, cellsT bs 33 s.cs, soT (.pointer (some ⟨gt, 0, none⟩)) (some (SS.new 500))] := S4.soMk 2 rfl
    generalize SS.new 500 = st at *
    clear y0 y1 y2 y3 y4 y5 S4 jc i0
    go_loopw [11] (fun i wr => ∃ k : Nat, k ≤ s.nn ∧ i = .int .i64 k ∧ St w wr [cellsT bc 29 c.cs, cellsT bs 33 s.cs, soT (.pointer (some ⟨gt, 0, none⟩)) (some st)]) (fun i _ => s.nn - (intOf i).toNat)
    case atStart => exact ⟨0, Nat.zero_le _, rfl, S6⟩
    case round =>
      obtain ⟨k, hk, rfl, Sk⟩ := hrel
      clear S6
      obtain ⟨y0, y1, y2, y3, y4, y5⟩ := Sk.sC 1 rfl
      by_cases hlt : k < s.nn
      case neg =>
        have g0 : decide ((k : Int) < (s.nn : Int)) = false := decide_eq_false (by omega)
        have g0n : decide (k < s.nn) = false := decide_eq_false (by omega)
        clear hlt hk
        go_wp2_with fail
        refine (wHad_any Sk (k := 2) rfl s (HS.out.all Sk.fin) ((J : Int) + 1)).mono ?_
        rintro e w9 ⟨rfl, hb9⟩
        have S9 := Sk.grow hb9
        rw [HW.out]
        go_wp2
        go_ret
        exact ⟨by simp, S9.fin⟩
      have g0 : decide ((k : Int) < (s.nn : Int)) = true := decide_eq_true (by omega)
      have g0n : decide (k < s.nn) = true := decide_eq_true (by omega)
      go_wp2_with fail
      refine (wOrder_any Sk (k := 2) rfl s (HS.out.all Sk.fin) (HT.out.all Sk.fin) HF.out.ord (k : Int)).mono ?_
      rintro e w7 ⟨rfl, hb7⟩
      have S7 := Sk.grow hb7
      clear hb7 Sk y0 y1 y2 y3 y4 y5
      rcases hO : wOrder s (k : Int) (some st) with _ | m
      · rw [orderV_none]
        clear hO
        go_wp2
        go_roundw
        case rel => exact ⟨k + 1, by omega, by go_num, S7.alloc _⟩
        case measure => simp [intOf]; omega
      · rw [orderV_some]
        have HO := hid hO
        clear hO
        by_cases hk3 : m.kind = 3
        case neg =>
          have g3 : (m.kind == 3) = false := by simpa using hk3
          clear hk3
          go_wp2
          go_roundw
          case rel => exact ⟨k + 1, by omega, by go_num, S7.alloc _⟩
          case measure => simp [intOf]; omega
        obtain ⟨j', hj1, hj2, hj3⟩ := wOrder_work HO.out hk3
        have g3 : (m.kind == 3) = true := by simpa using hk3
        by_cases hmj : m.job = (J : Int) + 1
        case neg =>
          have g4 : (m.job == (J : Int) + 1) = false := by simpa using hmj
          clear hk3 hj1 hj2 hj3 hmj
          go_wp2
          go_roundw
          case rel => exact ⟨k + 1, by omega, by go_num, S7.alloc _⟩
          case measure => simp [intOf]; omega
        have g4 : (m.job == (J : Int) + 1) = true := by simpa using hmj
        rw [hmj, show ((J : Int) + 1 - 1).toNat = J by omega, HJ.out] at hj1
        obtain rfl := Option.some.inj hj1
        rw [hmj, HW.out] at hj3
        have g5 : (m.work != 0) = false := by rw [hj3]; simp
        have g6 : (m.epoch != ep) = false := by rw [hj2, HE.out]; simp
        clear hk3 hj1 hj2 hj3 hmj
        go_wp2
        go_roundw
        case rel => exact ⟨k + 1, by omega, by go_num, S7.alloc _⟩
        case measure => simp [intOf]; omega
  · have HN : isNum worked = true := by unfold isNum; exact decide_eq_true ⟨by omega, by omega⟩
    have hlen := wData_len worked HN
    have HW := hid (wHad_some s j J HJ.out hJn hjob (by rw [HE.out]; omega) worked (by omega) (by omega))
    have HSt := hid (s500_stage ((J : Int) + 1) ep (wData worked) hjob (by omega) (by omega) hlen.1 (by omega))
    rw [HE.out] at HW
    have g5 : decide (0 < ep) = true := decide_eq_true (by omega)
    have g6 : (ep == 0) = false := by simpa using c5
    clear c5 hep hinc
    obtain ⟨k5, hk5⟩ : ∃ k, (codeNum worked).length = k := ⟨_, rfl⟩
    obtain ⟨k6, hk6⟩ : ∃ k, (wData worked).length = k := ⟨_, rfl⟩
    have b5 : k5 ≤ 8 := hk5 ▸ codeNum_len _
    have b6 : k6 ≤ 16 := by omega
    have HK5 := hid hk5
    have HK6 := hid hk6
    clear hk5 hk6 hlen
    go_wp2_with fail
    refine (num_any worked _).mono ?_
    rintro e w5 ⟨v5, rfl, ho5, hb5⟩
    obtain ⟨a5, c5, rfl⟩ := ho5.written HK5.out
    have S5 := S4.bytes ho5 hb5
    have hcv := str_run w5 a5 _ k5 c5 HK5.out (S5.at 3 rfl)
    clear ho5 hb5 y0 y1 y2 y3 y4 y5 S4 jc i0
    go_wp2_with fail
    refine (text_any _ (by show (codeNum worked).toArray.size ≤ _; rw [List.size_toArray, HK5.out]; omega) _).mono ?_
    rintro e w6 ⟨v6, rfl, ho6, hb6⟩
    have ho6' : Own w6 w5.heap.size v6 (wData worked) := ho6
    obtain ⟨a6, c6, rfl⟩ := ho6'.written HK6.out
    have S6' := S5.bytes ho6' hb6
    clear ho6 ho6' hb6 S5 hcv
    go_wp2_with fail
    refine (stStage_any S6' 2 rfl (by decide) 0 ((J : Int) + 1) ep a6 _ k6 c6 HK6.out (by omega) (S6'.slA 4 rfl).2.2.2.1 (by exact S6'.at 4 rfl)).mono ?_
    rintro e w7 ⟨rfl, S7⟩
    rw [HSt.out] at S7 ⊢
    have S6 : St w w7 [cellsT bc 29 c.cs, cellsT bs 33 s.cs, soT (.pointer (some ⟨gt, 0, none⟩)) (some { (SS.new 500).put ((J : Int) + 1) ⟨0, [], ep, wData worked⟩ with writes := 1 })] := (S7.take 3).soMk 2 rfl
    clear S7 S6' HSt
    generalize ({ (SS.new 500).put ((J : Int) + 1) ⟨0, [], ep, wData worked⟩ with writes := 1 } : SS) = st at *
    go_wp2_with fail
    generalize worked = W at *
    go_loopw [11] (fun i wr => ∃ k : Nat, k ≤ s.nn ∧ i = .int .i64 k ∧ St w wr [cellsT bc 29 c.cs, cellsT bs 33 s.cs, soT (.pointer (some ⟨gt, 0, none⟩)) (some st)]) (fun i _ => s.nn - (intOf i).toNat)
    case atStart => exact ⟨0, Nat.zero_le _, rfl, S6⟩
    case round =>
      obtain ⟨k, hk, rfl, Sk⟩ := hrel
      clear S6
      obtain ⟨y0, y1, y2, y3, y4, y5⟩ := Sk.sC 1 rfl
      by_cases hlt : k < s.nn
      case neg =>
        have g0 : decide ((k : Int) < (s.nn : Int)) = false := decide_eq_false (by omega)
        have g0n : decide (k < s.nn) = false := decide_eq_false (by omega)
        clear hlt hk
        go_wp2_with fail
        refine (wHad_any Sk (k := 2) rfl s (HS.out.all Sk.fin) ((J : Int) + 1)).mono ?_
        rintro e w9 ⟨rfl, hb9⟩
        have S9 := Sk.grow hb9
        rw [HW.out]
        go_wp2
        go_ret
        exact ⟨by simp, S9.fin⟩
      have g0 : decide ((k : Int) < (s.nn : Int)) = true := decide_eq_true (by omega)
      have g0n : decide (k < s.nn) = true := decide_eq_true (by omega)
      go_wp2_with fail
      refine (wOrder_any Sk (k := 2) rfl s (HS.out.all Sk.fin) (HT.out.all Sk.fin) HF.out.ord (k : Int)).mono ?_
      rintro e w7 ⟨rfl, hb7⟩
      have S7 := Sk.grow hb7
      clear hb7 Sk y0 y1 y2 y3 y4 y5
      rcases hO : wOrder s (k : Int) (some st) with _ | m
      · rw [orderV_none]
        clear hO
        go_wp2
        go_roundw
        case rel => exact ⟨k + 1, by omega, by go_num, S7.alloc _⟩
        case measure => simp [intOf]; omega
      · rw [orderV_some]
        have HO := hid hO
        clear hO
        by_cases hk3 : m.kind = 3
        case neg =>
          have g3 : (m.kind == 3) = false := by simpa using hk3
          clear hk3
          go_wp2
          go_roundw
          case rel => exact ⟨k + 1, by omega, by go_num, S7.alloc _⟩
          case measure => simp [intOf]; omega
        obtain ⟨j', hj1, hj2, hj3⟩ := wOrder_work HO.out hk3
        have g3 : (m.kind == 3) = true := by simpa using hk3
        by_cases hmj : m.job = (J : Int) + 1
        case neg =>
          have g4 : (m.job == (J : Int) + 1) = false := by simpa using hmj
          clear hk3 hj1 hj2 hj3 hmj
          go_wp2
          go_roundw
          case rel => exact ⟨k + 1, by omega, by go_num, S7.alloc _⟩
          case measure => simp [intOf]; omega
        have g4 : (m.job == (J : Int) + 1) = true := by simpa using hmj
        rw [hmj, show ((J : Int) + 1 - 1).toNat = J by omega, HJ.out] at hj1
        obtain rfl := Option.some.inj hj1
        rw [hmj, HW.out] at hj3
        have g5 : (m.work != W) = false := by rw [hj3]; simp
        have g6 : (m.epoch != ep) = false := by rw [hj2, HE.out]; simp
        clear hk3 hj1 hj2 hj3 hmj
        go_wp2
        go_roundw
        case rel => exact ⟨k + 1, by omega, by go_num, S7.alloc _⟩
        case measure => simp [intOf]; omega
end Go.Proofs.YtilobmefomoemaaDoor
