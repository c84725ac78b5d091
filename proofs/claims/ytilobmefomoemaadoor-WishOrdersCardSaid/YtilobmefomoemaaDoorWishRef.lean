/- Wish: the document's answer: what a job had worked. -/
import Derived.Test.YtilobmefomoemaaDoorGangs
import Derived.Test.YtilobmefomoemaaDoorStoreRef7
import Derived.Test.YtilobmefomoemaaDoorStoreRel
namespace Go.Proofs.YtilobmefomoemaaDoor
set_option linter.unusedVariables false
set_option linter.unusedSimpArgs false
open Go.RowKit
theorem getText_back {l t : List UInt8} {e : Nat} (h : getText l 0 = some (t, e)) : codeText t = l.take e ∧ e ≤ l.length := by
  unfold getText at h
  cases hg : getNum l 0 with
  | none => rw [hg] at h; cases h
  | some p =>
    obtain ⟨m, x⟩ := p
    rw [hg] at h
    obtain ⟨h1, h2, h3, h4⟩ := getNum_some hg
    have hb := getNum_back hg
    simp only [Option.bind_some] at h
    split at h
    · simp only [Option.some.injEq, Prod.mk.injEq] at h
      obtain ⟨rfl, rfl⟩ := h
      have hl : ((l.drop x).take m).length = m := by simp; omega
      refine ⟨?_, by omega⟩
      unfold codeText
      rw [hl, hb, List.take_add]
    · cases h
/-- What the document reads of a checkpoint. -/
def qHadD (d : List UInt8) : Int :=
  match getText d 0 with
  | none => 0
  | some (t, _) => match getNum t 0 with | none => 0 | some (n, _) => if codeText (codeNum (n : Int)) = d then min 1000 (n : Int) else 0
theorem qHadD_eq (d : List UInt8) : qHadD d = wHadD d := by
  unfold qHadD wHadD
  rcases hT : getText d 0 with _ | ⟨t, e⟩
  · rfl
  · simp only
    rcases hN : getNum t 0 with _ | ⟨n, x⟩
    · simp
    · simp only
      obtain ⟨b1, b2⟩ := getText_back hT
      obtain ⟨n1, n2, n3, n4⟩ := getNum_some hN
      have b3 := getNum_back hN
      have hI : isNum (n : Int) = true := by unfold isNum; exact decide_eq_true ⟨by omega, by omega⟩
      have hL : isNum ((codeNum (n : Int)).length : Int) = true := by
        have := codeNum_len (n : Int)
        unfold isNum; exact decide_eq_true ⟨by omega, by omega⟩
      by_cases h : codeText (codeNum (n : Int)) = d
      · rw [if_pos h]
        have g1 := getText_put (codeNum (n : Int)) [] hL
        have g2 := getNum_put [] [] (n : Int) hI
        simp only [List.append_nil, List.nil_append, List.length_nil, Nat.zero_add] at g1 g2
        rw [h, hT] at g1
        simp only [Option.some.injEq, Prod.mk.injEq] at g1
        obtain ⟨g3, g4⟩ := g1
        have g2' : getNum (codeNum (n : Int)) 0 = some ((n : Int).toNat, (codeNum (n : Int)).length) := g2
        rw [← g3, hN] at g2'
        simp only [Option.some.injEq, Prod.mk.injEq] at g2'
        rw [if_pos g4, if_pos g2'.2]
      · rw [if_neg h]
        split
        · rename_i h1
          split
          · rename_i h2
            refine absurd ?_ h
            rw [b3, h2, List.take_length, b1, h1, List.take_length]
          · rfl
        · rfl
def qHad (s : STA) (job : Int) (q : QS) : Int :=
  if job < 1 ∨ (s.jn : Int) < job then 0 else
  match s.J[(job - 1).toNat]? with
  | none => 0
  | some j => if j.epoch < 1 then 0 else qHadD ((qGet q job j.epoch).getD [])
theorem qHad_eq {c : CF} {s : STA} (h : RF c s) {t : SS} {q : QS} (R : RelS t q) (job : Int) : qHad s job q = wHad s job (some t) := by
  unfold qHad wHad
  split
  · rfl
  · rename_i hj
    cases hJ : s.J[(job - 1).toNat]? with
    | none => rfl
    | some j =>
      obtain ⟨hl, he⟩ := List.getElem?_eq_some_iff.1 hJ
      have hf := (h.job _ hl).epoch
      rw [he] at hf
      simp only
      by_cases h0 : j.epoch = 0
      · rw [if_pos (by omega), if_pos h0]
      · rw [if_neg (by omega), if_neg h0, qHadD_eq]
        show _ = wHadD ((sGet t job j.epoch).getD [])
        rw [R.get]
section
variable {w0 w : World} {tl : List Thing} {h : Nat} {q : QS}
theorem rqGetC (S : St w0 w (rstT h q :: tl)) (hm : q.L.length ≤ 100000) (j ep : Int) :
    Calls Tryd.prog 47 #[.pointer (some ⟨h, 0, none⟩), .int .i64 j, .int .i64 ep] w fun e w' => ∃ a c, e = .returned (.tuple #[.slice a ((qGet q j ep).getD []).length c, .bool (qGet q j ep).isSome]) ∧ At w a ((qGet q j ep).getD []) ∧ ((qGet q j ep).getD []).length ≤ 100 ∧ ((qGet q j ep).getD []).length ≤ c ∧ w = w' := by
  obtain ⟨r, aL, cL, D, R, S1⟩ := S.rstO
  refine (rsGet_any S1 (by rw [R.len]; omega) j ep).mono ?_
  rintro e w' ⟨rfl, rfl⟩
  have h2 : q.L.find? (fun x => decide (x.job = j) && decide (x.ep = ep)) = (r.L.find? (rgm j ep)).map RP.pt := by
    rw [← R.q]
    show (r.L.map RP.pt).find? _ = _
    rw [List.find?_map]; rfl
  unfold qGet rGetV
  rw [h2]
  cases hx : r.L.find? (rgm j ep) with
  | none => exact ⟨none, 0, rfl, At.nil _ _, by simp, by simp, rfl⟩
  | some x =>
    have hxL := List.mem_of_find?_eq_some hx
    obtain ⟨k1, k2⟩ := S1.poolAt 2 rfl (R.mem x hxL)
    have k3 := R.small x hxL
    have k4 := k1.len
    have k5 := k1.le
    refine ⟨x.d.a, x.d.c, ?_, k2, ?_, ?_, rfl⟩
    · show _ = Ending.returned (.tuple #[.slice x.d.a x.d.l.length x.d.c, .bool true])
      rw [k4]
    · show x.d.l.length ≤ 100; omega
    · show x.d.l.length ≤ x.d.c; omega
set_option maxRecDepth 10000 in
set_option maxHeartbeats 3200000 in
theorem rHad_any (S : St w0 w (rstT h q :: tl)) (hm : q.L.length ≤ 100000) (s : STA) (hs : s.At w) (job : Int) :
    Calls Tryd.prog 23 #[.agg #[.slice s.na s.nn s.nc, .slice s.ja s.jn s.jc, .int .i64 s.goal, .int .i64 s.prior, .int .i64 s.mode, .int .i64 s.term], .int .i64 job, .pointer (some ⟨h, 0, none⟩)] w fun e w' => e = .returned (.int .i64 (qHad s job q)) ∧ Below w.heap.size w w' := by
  have hb := ((St.start w).alloc (.cells #[.slice s.na s.nn s.nc, .slice s.ja s.jn s.jc, .int .i64 s.goal, .int .i64 s.prior, .int .i64 s.mode, .int .i64 s.term] 33)).fin
  by_cases h1 : job < 1
  · have E : Hid (qHad s job q = 0) := if_pos (.inl h1)
    have g1 : decide (job < 1) = true := decide_eq_true h1
    clear h1
    go_enter Tryd.func23, Tryd.ntmps23
    go_wp2
    go_ret
    exact ⟨by rw [E.out]; rfl, hb⟩
  by_cases h2 : (s.jn : Int) < job
  · have E : Hid (qHad s job q = 0) := if_pos (.inr h2)
    have g1 : decide (job < 1) = false := decide_eq_false h1
    have g2 : decide ((s.jn : Int) < job) = true := decide_eq_true h2
    clear h1 h2
    go_enter Tryd.func23, Tryd.ntmps23
    go_wp2
    go_ret
    exact ⟨by rw [E.out]; rfl, hb⟩
  obtain ⟨K, rfl⟩ : ∃ K : Nat, job = K + 1 := ⟨(job - 1).toNat, by omega⟩
  have hK : K < s.jn := by omega
  have hl : K < s.J.length := by rw [hs.jn]; exact hK
  have hjm := hs.jm
  unfold maxLen at hjm
  have i0 := fun wx => idxJB s.ja s.jn s.jc (fun h => hs.j.ok (by rw [hs.jn]; exact h)) K K rfl hK wx
  have HX : Hid (∀ w', Below w.heap.size w w' → JbAt w' (adr s.ja (K * 12)) s.J[K]) := fun w' hb => (hs.j.all eJBok hb).jbAt hl
  have g1 : decide ((K : Int) + 1 < 1) = false := decide_eq_false h1
  have g2 : decide ((s.jn : Int) < (K : Int) + 1) = false := decide_eq_false h2
  have E0 : Hid (qHad s ((K : Int) + 1) q = if s.J[K].epoch < 1 then 0 else qHadD ((qGet q ((K : Int) + 1) s.J[K].epoch).getD [])) := by
    rw [Hid, qHad, if_neg (by omega), show ((K : Int) + 1 - 1).toNat = K by omega, List.getElem?_eq_getElem hl]
  generalize s.J[K] = x at *
  generalize adr s.ja (K * 12) = A at *
  clear h1 h2 hl
  obtain ⟨x0, x1, x2, x3, x4, x5, x6, x7, x8, x9, x10, x11⟩ := HX.out _ hb
  by_cases h3 : x.epoch < 1
  · have E : Hid (qHad s ((K : Int) + 1) q = 0) := by rw [Hid, E0.out, if_pos h3]
    have g3 : decide (x.epoch < 1) = true := decide_eq_true h3
    clear h3
    go_enter Tryd.func23, Tryd.ntmps23
    go_wp2
    go_ret
    exact ⟨by rw [E.out]; rfl, hb⟩
  have g3 : decide (x.epoch < 1) = false := decide_eq_false h3
  have E1 : Hid (qHad s ((K : Int) + 1) q = qHadD ((qGet q ((K : Int) + 1) x.epoch).getD [])) := by rw [Hid, E0.out, if_neg h3]
  clear h3 E0
  have S1 := S.alloc (.cells #[.slice s.na s.nn s.nc, .slice s.ja s.jn s.jc, .int .i64 s.goal, .int .i64 s.prior, .int .i64 s.mode, .int .i64 s.term] 33)
  go_enter Tryd.func23, Tryd.ntmps23
  go_wp2_with fail
  generalize w.alloc _ = w1 at *
  refine (rqGetC S1 hm ((K : Int) + 1) x.epoch).mono ?_
  rintro e w2 ⟨a, c, rfl, hat, h2, h3, rfl⟩
  obtain ⟨O, hO⟩ : ∃ O, qGet q ((K : Int) + 1) x.epoch = O := ⟨_, rfl⟩
  rw [hO] at hat h2 h3 E1 ⊢
  clear hO x0 x1 x2 x3 x4 x5 x6 x7 x8 x9 x10 x11 HX hs i0 S S1
  rcases O with _ | d
  · have E : Hid (qHad s ((K : Int) + 1) q = 0) := by rw [Hid, E1.out]; rfl
    simp only [Option.getD_none, Option.isSome_none, List.length_nil] at *
    clear E1
    go_wp2
    go_ret
    exact ⟨by rw [E.out]; rfl, hb⟩
  simp only [Option.getD_some, Option.isSome_some] at *
  obtain ⟨n, hn⟩ : ∃ n, d.length = n := ⟨_, rfl⟩
  rw [hn] at h2 h3 ⊢
  have HN := hid hn
  clear hn
  go_wp2_with fail
  refine (rgetText_any a d n c 0 w1 HN.out (by omega) h3 hat).mono ?_
  rintro e w3 ⟨rfl, hb3⟩
  have hat := hat.all hb3
  have hb := bst hb hb3
  clear hb3
  rcases hT : getText d 0 with _ | ⟨t, x2⟩
  · have E : Hid (qHad s ((K : Int) + 1) q = 0) := by rw [Hid, E1.out, qHadD, hT]
    rw [res3s, show ByteArray.empty = ⟨([] : List UInt8).toArray⟩ from rfl]
    obtain ⟨c4, w4, hcv, hb4, hat4, hle4⟩ := conv_sb w3 []
    have hb := bst hb hb4
    clear hT E1 hb4
    go_wp2_with fail
    refine (rgetNum_any (some ⟨w3.heap.size, 0, none⟩) [] 0 c4 0 w4 rfl (by omega) hat4).mono ?_
    rintro e w5 ⟨rfl, hb5⟩
    rw [show getNum [] 0 = none from rfl, res3]
    have hb := bst hb hb5
    clear hb5
    go_wp2
    go_ret
    exact ⟨by rw [E.out]; rfl, hb⟩
  · rw [res3s]
    have E2 : Hid (qHad s ((K : Int) + 1) q = match getNum t 0 with | none => 0 | some (n, _) => if codeText (codeNum (n : Int)) = d then min 1000 (n : Int) else 0) := by
      rw [Hid, E1.out, qHadD, hT]
    obtain ⟨c4, w4, hcv, hb4, hat4, hle4⟩ := conv_sb w3 t
    have hmm := getText_len hT
    rw [HN.out] at hmm
    clear hT E1
    have hat := hat.all hb4
    have hb := bst hb hb4
    obtain ⟨m, hm⟩ : ∃ m, t.length = m := ⟨_, rfl⟩
    rw [hm] at hcv hle4 hmm
    have HM := hid hm
    clear hm hb4
    go_wp2_with fail
    refine (rgetNum_any (some ⟨w3.heap.size, 0, none⟩) t m c4 0 w4 HM.out (by omega) hat4).mono ?_
    rintro e w5 ⟨rfl, hb5⟩
    have hat := hat.all hb5
    have hb := bst hb hb5
    clear hb5 hcv hat4
    rcases hN : getNum t 0 with _ | ⟨v, x3⟩
    · have E : Hid (qHad s ((K : Int) + 1) q = 0) := by rw [Hid, E2.out, hN]
      rw [res3]
      clear hN E2
      go_wp2
      go_ret
      exact ⟨by rw [E.out]; rfl, hb⟩
    · rw [res3]
      have E3 : Hid (qHad s ((K : Int) + 1) q = if codeText (codeNum (v : Int)) = d then min 1000 (v : Int) else 0) := by rw [Hid, E2.out, hN]
      have hNv := (getNum_some hN).1
      clear hN E2
      have Sx : St w5 w5 [] := St.start w5
      go_wp2_with fail
      refine (rnum_any (v : Int) w5).mono ?_
      rintro e w6 ⟨u6, rfl, ho6, hb6⟩
      obtain ⟨L6, hL6⟩ : ∃ L6, (codeNum (v : Int)).length = L6 := ⟨_, rfl⟩
      obtain ⟨a6, c6, rfl⟩ := ho6.written hL6
      have hs6 := codeNum_len (v : Int)
      have S6 := Sx.bytes ho6 hb6
      have hcv := str_run w6 a6 _ _ c6 hL6 (S6.at 0 rfl)
      have hat := hat.all hb6
      have hb := bst hb hb6
      clear ho6 hb6
      go_wp2_with fail
      refine (rtext_any ⟨(codeNum (v : Int)).toArray⟩ (by simp [ByteArray.size]; omega) _).mono ?_
      rintro e w7 ⟨u7, rfl, ho7, hb7⟩
      have ho7' : Own w7 w6.heap.size u7 (codeText (codeNum (v : Int))) := ho7
      obtain ⟨L7, hL7⟩ : ∃ L7, (codeText (codeNum (v : Int))).length = L7 := ⟨_, rfl⟩
      have hs7 : L7 ≤ 16 := by
        rw [← hL7, codeText, List.length_append]
        have := codeNum_len ((codeNum (v : Int)).length : Int)
        omega
      obtain ⟨a7, c7, rfl⟩ := ho7'.written hL7
      have S7 := S6.bytes ho7' hb7
      have hat := hat.all hb7
      have hb := bst hb hb7
      have HL7 := hid hL7
      clear ho7 ho7' hb7 hcv hL6 hL7 S6
      have A7 := S7.at 1 rfl
      obtain ⟨T, hT⟩ : ∃ T, codeText (codeNum (v : Int)) = T := ⟨_, rfl⟩
      rw [hT] at A7 HL7 E3
      clear hT S7
      go_wp2_with fail
      refine (bytes_any a7 a T d L7 n c7 c w7 HL7.out HN.out (by unfold maxLen; omega) (by unfold maxLen; omega) A7 hat).mono ?_
      rintro e w8 ⟨rfl, n8, rfl⟩
      have hb := below_drewN hb n8
      by_cases hE : T = d
      · rw [show (T == d) = true by simpa using hE]
        by_cases hv : 1000 < v
        · have E : Hid (qHad s ((K : Int) + 1) q = 1000) := by rw [Hid, E3.out, if_pos hE]; omega
          have gv : decide (1000 < (v : Int)) = true := decide_eq_true (by omega)
          have gvn : decide (1000 < v) = true := decide_eq_true (by omega)
          clear hv hE E3
          go_wp2
          go_ret
          exact ⟨by rw [E.out]; rfl, hb⟩
        · have E : Hid (qHad s ((K : Int) + 1) q = v) := by rw [Hid, E3.out, if_pos hE]; omega
          have gv : decide (1000 < (v : Int)) = false := decide_eq_false (by omega)
          have gvn : decide (1000 < v) = false := decide_eq_false (by omega)
          clear hv hE E3
          go_wp2
          go_ret
          exact ⟨by rw [E.out]; rfl, hb⟩
      · rw [show (T == d) = false by simpa using hE]
        have E : Hid (qHad s ((K : Int) + 1) q = 0) := by rw [Hid, E3.out, if_neg hE]
        clear hE E3
        go_wp2
        go_ret
        exact ⟨by rw [E.out]; rfl, hb⟩
end
end Go.Proofs.YtilobmefomoemaaDoor
