/- JournalPast. -/
import Derived.Test.YtmfbbonppmhabaaJournalLaw2
namespace Go.Proofs.Ytmfbbonppmhabaa
set_option linter.unusedVariables false
set_option linter.unusedSimpArgs false
open Go.RowKit
theorem crash_id {d : DSt} (hw : d.waits = []) (keep : Int) : d.crash keep = d := by
  unfold DSt.crash
  rw [hw]
  obtain ⟨l, ws, s⟩ := d
  simp only at hw
  subst hw
  rfl
section
variable {N q sz used k : Nat} {d : DSt} {o : Option (List UInt8 × Nat)} {ops : List (List UInt8)}
/-- Start, whether there is room or not; a crash; what is opened then. -/
theorem JInv.tear (h : JInv N q sz d used o ops k) (G : JGeo N q sz) (l : List UInt8) (keep : Int) (hk : k ≤ 100000) :
    ∃ u ops', (ops' = ops ∨ ops' = ops ++ [l]) ∧ (jStart d (2 * q) sz used (jCnt o ops) l).2.1.waits.length ≤ 1 ∧ (jStart d (2 * q) sz used (jCnt o ops) l).2.1.syncs = d.syncs ∧
      jPic ((jStart d (2 * q) sz used (jCnt o ops) l).2.1.crash keep) q sz = o ∧ jOps ((jStart d (2 * q) sz used (jCnt o ops) l).2.1.crash keep) q sz = ops' ∧ jUsed ((jStart d (2 * q) sz used (jCnt o ops) l).2.1.crash keep) q sz = u ∧
      ((jStart d (2 * q) sz used (jCnt o ops) l).2.1.crash keep).lasts.length = N ∧ ((jStart d (2 * q) sz used (jCnt o ops) l).2.1.crash keep).waits = [] ∧ ((jStart d (2 * q) sz used (jCnt o ops) l).2.1.crash keep).syncs = d.syncs ∧
      JInv N q sz (jDisk ((jStart d (2 * q) sz used (jCnt o ops) l).2.1.crash keep) q sz) u o ops' (k + 2) := by
  have hl := jStart_lens d (2 * q) sz used (jCnt o ops) l
  cases hr : jRoom sz used (jCnt o ops) l.length
  · obtain ⟨-, e2⟩ := jStart_no (d := d) (q := q) hr
    have e3 : (jStart d (2 * q) sz used (jCnt o ops) l).2.1 = d := by rw [e2]
    rw [e3, crash_id h.waits]
    obtain ⟨p1, p2, p3, p4⟩ := h.open_ G (by omega)
    exact ⟨_, _, .inl rfl, by rw [h.waits]; simp, rfl, p1, p2, p3, h.len, h.waits, rfl, p4.mono (by omega)⟩
  · obtain ⟨-, -, t3, u, ops', e, -, p1, p2, p3, p4, p5, p6, p7⟩ := h.torn G hr keep (by omega)
    refine ⟨u, ops', ?_, t3, hl.2.1, p1, p2, p3, p4, p5, p6, p7⟩
    rw [e]
    split
    · exact .inr rfl
    · exact .inl rfl
end
set_option maxRecDepth 100000 in
set_option maxHeartbeats 6400000 in
theorem journalPast_law (a : Option Addr) (L : List BS) (n ca : Nat) (ta : Option Addr) (T : List UInt8) (tn tc : Nat) (keep : Int) (w : World) (hn : L.length = n) (hm : n ≤ maxLen) (hA : AtG eS w a L) (hok : ∀ x ∈ L, BS.Hd x ∧ At w x.a x.l)
    (htn : T.length = tn) (htm : tn ≤ maxLen) (htc : tn ≤ tc) (htx : tc ≤ maxLen) (htl : ta = none → tc = 0) (hT : At w ta T) (hk0 : -9223372036854775808 ≤ keep) (hk1 : keep ≤ 9223372036854775807) :
    Calls Try.prog 6 #[.slice a n ca, .slice ta tn tc, .int .i64 keep] w fun e w' => e = .returned (.bool true) ∧ Below w.heap.size w w' := by
  have HN := hid hn
  have HA := hid hA
  have HOk := hid hok
  have HTN := hid htn
  have HT := hid hT
  unfold maxLen at hm
  have S0 := St.start w
  have G : JGeo 2000 500 1000 := ⟨by omega, by omega, by omega, by omega⟩
  have HJ := hid (jNew G)
  clear hn hA hok htn hT
  go_enter Try.func6, Try.ntmps6
  go_wp2_with fail
  refine (alive7_any _).mono ?_
  rintro e w1 ⟨rfl, hb1⟩
  have S1 := S0.grow hb1
  clear hb1
  by_cases hn20 : n ≤ 20
  case neg =>
    have g0 : decide ((20 : Int) < (n : Int)) = true := decide_eq_true (by omega)
    have g0n : decide (20 < n) = true := decide_eq_true (by omega)
    go_wp2
    go_ret
    exact ⟨rfl, S1.fin⟩
  have g0 : decide ((20 : Int) < (n : Int)) = false := decide_eq_false (by omega)
  have g0n : decide (20 < n) = false := decide_eq_false (by omega)
  by_cases ht1 : 1 ≤ tn
  case neg =>
    have g1 : decide ((tn : Int) < 1) = true := decide_eq_true (by omega)
    have g1n : decide (tn < 1) = true := decide_eq_true (by omega)
    go_wp2
    go_ret
    exact ⟨rfl, S1.fin⟩
  have g1 : decide ((tn : Int) < 1) = false := decide_eq_false (by omega)
  have g1n : decide (tn < 1) = false := decide_eq_false (by omega)
  by_cases ht60 : tn ≤ 60
  case neg =>
    have g2 : decide ((60 : Int) < (tn : Int)) = true := decide_eq_true (by omega)
    have g2n : decide (60 < tn) = true := decide_eq_true (by omega)
    go_wp2
    go_ret
    exact ⟨rfl, S1.fin⟩
  have g2 : decide ((60 : Int) < (tn : Int)) = false := decide_eq_false (by omega)
  have g2n : decide (60 < tn) = false := decide_eq_false (by omega)
  go_wp2_with fail
  refine (hnew S1 2000 (by omega) (by omega)).mono ?_
  rintro e w2 ⟨pd, rfl, S2, -⟩
  obtain ⟨D, hD, d1, d2, d3, d4, d5, d6, H1⟩ := HJ.out
  rw [hD] at S2
  clear hD HJ S1
  have S2' : St w w2 [diskT pd D] := S2
  go_wp2_with fail
  refine (jOpenI S2' G (by decide) d2 (by omega) (by rw [d1]; simp) (by rw [d3]; omega) d4 d5 d6).mono ?_
  rintro e w3 ⟨gj, gl, gs, a2, b2, c2, m2, kk2, xs2, rfl, -, -, -, -, -, -, S3'⟩
  have S3 : St w w3 (jL gj gl gs pd 500 1000 0 (jDisk D 500 1000) none [] []) := S3'.take 4
  clear S2 S2' S3' S0 d1 d2 d3 d4 d5 d6 g0 g0n g1 g1n g2 g2n
  have HH := hid H1
  clear H1
  go_wp2_with fail
  go_loopw [12] (fun i wr => ∃ (k used : Nat) (d : DSt) (ops : List (List UInt8)), k ≤ n ∧ i = .int .i64 k ∧ JInv 2000 500 1000 d used none ops (k + 1) ∧ ops.length = k ∧ used ≤ 47 * k ∧ St w wr (jL gj gl gs pd 500 1000 used d none ops [])) (fun i _ => n - (intOf i).toNat)
  case atStart => exact ⟨0, 0, _, [], Nat.zero_le _, rfl, HH.out, rfl, by omega, S3⟩
  case round =>
    obtain ⟨k, used, d, ops, hk, rfl, hI, hol, hus, Sk⟩ := hrel
    have HI := hid hI
    have HOL := hid hol
    clear hI S3 hol
    by_cases hlt : k < n
    case pos =>
      have g0 : decide ((k : Int) < (n : Int)) = true := decide_eq_true (by omega)
      have g0n : decide (k < n) = true := decide_eq_true (by omega)
      have hkL : k < L.length := by rw [HN.out]; exact hlt
      have i0 := fun wx => idxS a n ca (fun h => HA.out.ok (by rw [HN.out]; exact h)) k k rfl hlt wx
      have HX := hid (HOk.out _ (List.getElem_mem hkL))
      have HC : Hid (∀ w', Below w.heap.size w w' → w'.cell? (adr a k) = some (.slice L[k].a L[k].n L[k].c)) := fun w' h => (HA.out.all eSok h).cellS hkL
      generalize L[k] = x at *
      generalize adr a k = A at *
      have x0 := HC.out _ Sk.fin
      have HXl := hid HX.out.1.len
      by_cases q1 : x.n < 1
      · have g1 : decide ((x.n : Int) < 1) = true := decide_eq_true (by omega)
        have g1n : decide (x.n < 1) = true := decide_eq_true (by omega)
        go_wp2
        go_ret
        exact ⟨rfl, Sk.fin⟩
      have g1 : decide ((x.n : Int) < 1) = false := decide_eq_false (by omega)
      have g1n : decide (x.n < 1) = false := decide_eq_false (by omega)
      by_cases q2 : 40 < x.n
      · have g2 : decide ((40 : Int) < (x.n : Int)) = true := decide_eq_true (by omega)
        have g2n : decide (40 < x.n) = true := decide_eq_true (by omega)
        go_wp2
        go_ret
        exact ⟨rfl, Sk.fin⟩
      have g2 : decide ((40 : Int) < (x.n : Int)) = false := decide_eq_false (by omega)
      have g2n : decide (40 < x.n) = false := decide_eq_false (by omega)
      have hmx : x.n ≤ maxLen := Nat.le_trans HX.out.1.le HX.out.1.big
      have hsf : (frameB (codeNum (jCnt none ops) ++ x.l)).length = x.l.length + 7 := small_frame (c := picA none + ops.length) (l := x.l) (by rw [HOL.out]; show 0 + k ≤ 127; omega) (by rw [HXl.out]; omega)
      have hr : jRoom 1000 used (jCnt none ops) (x.l.length : Int) = true := by
        rw [jRoom_is (by rw [HXl.out]; omega) (by rw [HXl.out]; omega), hsf, HXl.out]
        exact decide_eq_true (by omega)
      obtain ⟨d', used', hu2, H2, C2⟩ := jAppI Sk HI.out G (by omega) x.a x.l x.n x.c HXl.out hmx HX.out.1.le HX.out.1.nil (Reads.old HX.out.2) hr
      have hu3 : used' ≤ 47 * (k + 1) := by rw [hu2, hsf, HXl.out]; omega
      have HH2 := hid H2
      have HC2 := hid C2
      clear H2 C2 hu2 hr hsf
      go_wp2_with fail
      refine HC2.out.mono ?_
      rintro e w6 ⟨rfl, S6⟩
      go_wp2
      go_roundw
      case rel => exact ⟨k + 1, used', d', ops ++ [x.l], by omega, by go_num, HH2.out, by rw [List.length_append, List.length_singleton, HOL.out], hu3, S6⟩
      case measure => simp [intOf]; omega
    have g0 : decide ((k : Int) < (n : Int)) = false := decide_eq_false (by omega)
    have g0n : decide (k < n) = false := decide_eq_false (by omega)
    have hkn : k = n := by omega
    subst hkn
    obtain ⟨u2, ops2, ho2, t1, t2, p1, p2, p3, p4, p5, p6, H3⟩ := HI.out.tear G T keep (by omega)
    have hy := HI.out.syncs
    have hfew := HI.out.few
    have HS := hid (jlStart Sk ta T tn tc HTN.out htm htc htl (Reads.old HT.out) ⟨by unfold jCnt; omega, by unfold jCnt; omega⟩ (by rw [HI.out.len]; omega) HI.out.log.le (by rw [HI.out.waits]; simp))
    have hl2 : ops2.length = k ∨ ops2.length = k + 1 := by
      rcases ho2 with h | h
      · left; rw [h, HOL.out]
      · right; rw [h, List.length_append, List.length_singleton, HOL.out]
    generalize (jStart d (2 * 500) 1000 used (jCnt none ops) T) = R at *
    obtain ⟨r1, r2, r3, r4⟩ := R
    simp only at t1 t2 p1 p2 p3 p4 p5 p6 H3 HS
    have P1 := hid p1
    have P2 := hid p2
    have P3 := hid p3
    have P4 := hid p4
    have P5 := hid p5
    have P6 := hid p6
    have HH3 := hid H3
    have T2 := hid t2
    clear ho2 p1 p2 p3 p4 p5 p6 H3 t2 hk hlt
    go_wp2_with fail
    refine HS.out.mono ?_
    rintro e w4 ⟨rfl, S4⟩
    have S5 : St w w4 [diskT pd r2] := (S4.front 2 rfl).take 1
    clear S4 Sk HS
    go_wp2_with fail
    refine (hcrash S5 0 rfl keep hk0 hk1 (by omega)).mono ?_
    rintro e w5 ⟨rfl, S6⟩
    have S7 : St w w5 [diskT pd (r2.crash keep)] := S6
    go_wp2_with fail
    refine (jOpenI S7 G (by decide) P4.out (by omega) (by rw [P5.out]; simp) (by rw [P6.out]; omega) P1.out P2.out P3.out).mono ?_
    rintro e w6 ⟨gj2, gl2, gs2, a6, c6, b6, m6, kk6, ys, rfl, -, -, -, -, -, -, S8'⟩
    have S8 : St w w6 (jL gj2 gl2 gs2 pd 500 1000 u2 (jDisk (r2.crash keep) 500 1000) none ops2 []) := S8'.take 4
    clear S5 S6 S7 S8'
    go_wp2_with fail
    refine (jlCount S8).mono ?_
    rintro e w7 ⟨rfl, rfl⟩
    have k3 := fun (w : World) => Lib.run_convert_bytes_const (P := Try.prog) w 27 5 #[.int .u8 112] 1 1 sliceB u8T
    go_wp2_with fail
    have S9 := (S8.lit [112] #[.int .u8 112] rfl (1, 2)).unrot
    obtain ⟨t3, t4⟩ := takes_new HH3.out (.inr rfl) (p := [112]) (by show 0 + ops2.length ≤ 127; omega) (by simp) (by simp)
    rcases jCompI (by exact S9) HH3.out G (by omega) (some ⟨w6.heap.size, 0, none⟩) [112] 1 1 rfl (by omega) (by omega) (fun e => by cases e) (Reads.ro 0 rfl) with ⟨-, -, D3, H4, C3⟩ | ⟨h1, -⟩
    case inr =>
      exfalso
      rcases h1 with h1 | h1
      · exact t4 h1
      · exact h1 t3
    have HH4 := hid H4
    have HC3 := hid C3
    clear H4 C3 t3 t4
    refine HC3.out.mono ?_
    rintro e w8 ⟨rfl, S10⟩
    have S11 : St w w8 [diskT pd D3] := (S10.front 2 rfl).take 1
    clear S8 S9 S10 HC3
    obtain ⟨v1, v2, v3, -⟩ := HH4.out.open_ G (by omega)
    have V1 := hid v1
    have V2 := hid v2
    have V3 := hid v3
    clear v1 v2 v3
    have hy4 := HH4.out.syncs
    go_wp2_with fail
    refine (jOpenI S11 G (by decide) HH4.out.len (by omega) (by rw [HH4.out.waits]; simp) (by omega) V1.out V2.out V3.out).mono ?_
    rintro e w9 ⟨gj3, gl3, gs3, a9, c9, b9, m9, kk9, zs, rfl, -, -, -, hzs, hm9, -, S12⟩
    have hm0 : m9 = 0 := by rw [← hm9]; simpa using hzs
    subst hm0
    have hro : At w9 a9 [112] := Reads.ro 4 rfl w9 [] S12
    have sr2 := str_run w9 a9 [112] 1 c9 rfl hro
    clear hro hzs hm9
    rw [show (picL (some (([112] : List UInt8), picA none + ops2.length))).length = 1 from rfl]
    go_wp2_with fail
    refine (jlCount S12).mono ?_
    rintro e wz ⟨rfl, rfl⟩
    rw [show jCnt (some (([112] : List UInt8), picA none + ops2.length)) [] = jCnt none ops2 from rfl]
    have hcv : jCnt none ops2 = (ops2.length : Int) := by unfold jCnt; simp [picA]
    have e1 : (jCnt none ops2 == jCnt none ops2) = true := by simp
    have e2 : decide ((k : Int) ≤ jCnt none ops2) = true := decide_eq_true (by rw [hcv]; omega)
    have e3 : decide (jCnt none ops2 ≤ (k : Int) + 1) = true := decide_eq_true (by rw [hcv]; omega)
    clear hcv
    generalize jCnt none ops2 = c at *
    go_wp2
    go_ret
    exact ⟨rfl, S12.fin⟩
end Go.Proofs.Ytmfbbonppmhabaa
