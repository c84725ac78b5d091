/- SlotsActs. -/
import Derived.Test.YtkkailggpfmgaaaSlotsLaw
import Derived.Test.YtkkailggpfmgaaaSlotsActs
import Derived.Test.YtkkailggpfmgaaaSlotsRel
namespace Go.Proofs.Ytkkailggpfmgaaa
set_option linter.unusedVariables false
set_option linter.unusedSimpArgs false
open Go.RowKit

/-- A picture is short. -/
theorem pic_len {l : List UInt8} {p : List UInt8 × Nat} (h : pic l = some p) : p.1.length ≤ 4000 := by
  unfold pic at h
  split at h
  · obtain ⟨q, hq, rfl⟩ := Option.map_eq_some_iff.1 h
    show ((fGet l 0).1.drop q.2).length ≤ 4000
    rw [List.length_drop]
    have : (fGet l (0 : Int)).1.length ≤ 4000 := fGet_le l 0
    omega
  · cases h
theorem shows_len {d : DSt} {fr sz : Nat} {p : List UInt8 × Nat} (h : d.shows fr sz = some p) : p.1.length ≤ 4000 := by
  unfold DSt.shows at h
  rw [loadO_is] at h
  split at h <;> exact pic_len h
set_option maxRecDepth 10000 in
set_option maxHeartbeats 12800000 in
theorem slotsActs_main (n : Nat) (h1 : 1 ≤ n) (h2 : n ≤ 400) (fr sz : Int) (hf0 : -9223372036854775808 ≤ fr) (hf1 : fr ≤ 9223372036854775807) (hz0 : -9223372036854775808 ≤ sz) (hz1 : sz ≤ 9223372036854775807) (a : Option Addr) (L : List SAct) (m cap : Nat) (w : World) (hm : L.length = m) (hm1 : m ≤ maxLen) (hA : AtG eSA w a L) (hok : ∀ x ∈ L, SAct.Ok w x) (hf : few6 L = true) :
    Calls Try.prog 6 #[.int .i64 n, .int .i64 fr, .int .i64 sz, .slice a m cap] w fun e w' => e = .returned (.bool true) ∧ Below w.heap.size w w' := by
  unfold maxLen at hm1
  have HM := hid hm
  have HA := hid hA
  have HOk := hid hok
  have HF := hid hf
  have hfw := hf
  unfold few6 at hfw
  rw [Bool.and_eq_true, decide_eq_true_iff, List.all_eq_true, hm] at hfw
  have HF2 := hid hfw.2
  have hm60 := hfw.1
  have S0 := St.start w
  have HNw := hid (SRel.new h2)
  clear hm hA hok hf hfw
  go_enter Try.func6, Try.ntmps6
  go_wp2_with fail
  refine (alive6_any _).mono ?_
  rintro e w1 ⟨rfl, hb1⟩
  have S1 := S0.grow hb1
  go_wp2_with fail
  refine (few6_any a L m cap w1 HM.out (by unfold maxLen; omega) (by exact HA.out.all eSAok hb1)).mono ?_
  rintro e w2 ⟨rfl, rfl⟩
  rw [HF.out]
  clear hb1
  go_wp2_with fail
  refine (hnew S1 n h1 (by omega)).mono ?_
  rintro e w2 ⟨pd, rfl, S2, -⟩
  go_wp2_with fail
  refine (rdnew_any S2 n (by omega)).mono ?_
  rintro e w3 ⟨pr, rfl, S3, -⟩
  by_cases hbad : fr < 0 ∨ sz < 1 ∨ (n : Int) < 2 * sz ∨ (n : Int) - 2 * sz < fr
  · have HBad := hid hbad
    clear hbad
    go_wp2_with fail
    refine (slOpen_no (by exact S3.swap) fr sz hz0 hz1 (by simpa [DSt.new] using HBad.out)).mono ?_
    rintro e w4 ⟨rfl, rfl⟩
    go_wp2_with fail
    refine (rslOpen_no S3 fr sz hz0 hz1 (by have := HBad.out; simp only [List.length_replicate]; omega)).mono ?_
    rintro e w4 ⟨rfl, rfl⟩
    go_wp2_with fail
    refine (slLoad_nil _).mono ?_
    rintro e w4 ⟨rfl, rfl⟩
    go_wp2_with fail
    refine (slSave_nil _ _ _ _ _).mono ?_
    rintro e w4 ⟨rfl, rfl⟩
    go_wp2_with fail
    refine (slStart_nil _ _ _ _ _).mono ?_
    rintro e w4 ⟨rfl, rfl⟩
    go_wp2
    go_ret
    exact ⟨rfl, S3.fin⟩
  obtain ⟨fr, rfl⟩ := Int.eq_ofNat_of_zero_le (show 0 ≤ fr by omega)
  obtain ⟨sz, rfl⟩ := Int.eq_ofNat_of_zero_le (show 0 ≤ sz by omega)
  have hsz : 1 ≤ sz := by omega
  have hr : fr + 2 * sz ≤ n := by omega
  clear hbad hf0 hf1 hz0 hz1
  have T9len : Hid (∀ (d : DSt) (p : List UInt8 × Nat), d.shows fr sz = some p → p.1.length ≤ 4000) := fun d p h => shows_len h
  go_wp2_with fail
  refine (slOpen_yes (by exact S3.swap) fr sz hsz (by simp only [DSt.new, List.length_replicate]; exact hr)).mono ?_
  rintro e w4 ⟨g, rfl, S4⟩
  go_wp2_with fail
  refine (rslOpen_yes (by exact S4.front 2 rfl) fr sz hsz (by simp only [List.length_replicate]; exact hr)).mono ?_
  rintro e w5 ⟨h, rfl, S5⟩
  have S6 : St w w5 [cellsT g 90 (slotC pd fr sz), diskT pd (DSt.new n), cellsT h 92 (rslotC pr fr sz), rdT pr ⟨List.replicate n 0, [], 0⟩] := (S5.front 3 rfl).front 3 rfl
  clear S2 S3 S4 S5
  obtain ⟨d0, hd0⟩ : ∃ d0, DSt.new n = d0 := ⟨_, rfl⟩
  obtain ⟨r0, hr0⟩ : ∃ r0, (⟨List.replicate n 0, [], 0⟩ : RD) = r0 := ⟨_, rfl⟩
  rw [hd0, hr0] at S6 HNw
  clear hd0 hr0
  go_wp2_with fail
  go_loopw [18] (fun i wr => ∃ (k : Nat) (d : DSt) (r : RD), k ≤ m ∧ i = .int .i64 k ∧ SRel d r n (3 * k) ∧ St w wr [cellsT g 90 (slotC pd fr sz), diskT pd d, cellsT h 92 (rslotC pr fr sz), rdT pr r]) (fun i _ => m - (intOf i).toNat)
  case atStart => exact ⟨0, d0, r0, Nat.zero_le _, rfl, HNw.out, S6⟩
  case round =>
    obtain ⟨k, d, r, hk, rfl, hR, Sk⟩ := hrel
    have HR := hid hR
    clear hR
    by_cases hlt : k < m
    case neg =>
      go_wp2
      go_ret
      exact ⟨rfl, Sk.fin⟩
    have hkl : k < L.length := by rw [HM.out]; exact hlt
    have i0 := fun wx => idxSA a m cap (fun h => HA.out.ok (by rw [HM.out]; exact h)) k k rfl hlt wx
    have HEl : Hid (∀ w', Below w.heap.size w w' → _ ∧ _ ∧ _ ∧ _) := fun w' hb => (HA.out.all eSAok hb).cell4 hkl
    have HX := hid (HOk.out _ (List.getElem_mem hkl))
    have HX3 := HF2.out _ (List.getElem_mem hkl)
    rw [decide_eq_true_iff] at HX3
    generalize L[k] = x at *
    generalize adr a (k * 4) = A at *
    obtain ⟨y0, y1, y2, y3⟩ := HEl.out _ Sk.fin
    have S5 : St w (wr.alloc (.cells #[.int .i64 x.kind, .int .i64 x.keep, .int .i64 x.age, .slice x.a x.n x.c] 55)) [cellsT g 90 (slotC pd fr sz), diskT pd d, cellsT h 92 (rslotC pr fr sz), rdT pr r, cellsT wr.heap.size 55 [.int .i64 x.kind, .int .i64 x.keep, .int .i64 x.age, .slice x.a x.n x.c]] := Sk.newCells _ _
    have hlen := HX.out.len
    have lw := HR.out.waits
    have ls := HR.out.syncs
    have ll := HR.out.len
    have lps := HR.out.psLen
    have lsr : r.syncs = d.syncs := HR.out.rel.syncs
    have lb := HR.out.bytes
    have hst := HR.out.start hr x.b x.age
    have hsv := HR.out.save hr x.b x.age
    obtain ⟨RP, hRP⟩ : ∃ RP, rslStart r fr sz x.b x.age = RP := ⟨_, rfl⟩
    rw [hRP] at hst hsv
    have HRP := hid hRP
    clear hRP
    by_cases hk0 : x.kind = 0
    · have g0' : (x.kind == 0) = true := by simpa using hk0
      clear hk0
      obtain ⟨LA, hLA⟩ : ∃ LA, slSave d fr sz x.b x.age = LA := ⟨_, rfl⟩
      rw [hLA] at hsv
      have HLA := hid hLA
      have tq : (LA.1 != RP.1) = false := by rw [hsv.1]; simp
      have HSv := hid hsv.2
      have HSt := hid hst.2
      clear hLA hsv hst
      have hP := rslStart_any (by exact (S5.front 3 rfl).front 3 rfl) (by rw [lb.2.2]; exact hr) (by omega) (by omega) (by rw [lb.1, lb.2.1, lb.2.2]) x.a x.b x.n x.c hlen (by omega) HX.out.le (Reads.old HX.out.isAt) x.age
      rw [HRP.out] at hP
      have HP := hid hP
      clear hP
      go_wp2_with fail
      refine HP.out.mono ?_
      rintro e w10 ⟨rfl, T10⟩
      have hrs := HSt.out.psLen
      have hrs2 : RP.2.syncs ≤ 3 * k + 1 := by rw [HSt.out.rel.syncs]; exact HSt.out.syncs
      by_cases hz : RP.1 = 0
      · have gz : (RP.1 == 0) = true := by simpa using hz
        have HZ := hid hz
        clear hz
        go_wp2_with fail
        refine (rdsync_any (by exact T10.front 1 rfl) (by omega) (by omega)).mono ?_
        rintro e w11 ⟨rfl, T11⟩
        have T11' : St w w11 (cellsT g 90 (slotC pd fr sz) :: diskT pd d :: _) := (T11.front 3 rfl).front 3 rfl
        have y11a := T11'.cell 4 rfl 2 rfl
        have y11b := T11'.cell 4 rfl 3 rfl
        have hP := slSave_any T11' (by rw [ll]; exact hr) (by omega) (by omega) x.a x.b x.n x.c hlen (by omega) HX.out.le HX.out.nil (Reads.old HX.out.isAt) x.age
        rw [HLA.out] at hP
        have HP2 := hid hP
        clear hP
        go_wp2_with fail
        refine HP2.out.mono ?_
        rintro e w12 ⟨rfl, T12⟩
        have R9 := hid (HSv.out.le (j := 3 * (k + 1)) (by omega))
        rw [if_pos HZ.out] at R9
        obtain ⟨d9, hd9⟩ : ∃ d9, LA.2 = d9 := ⟨_, rfl⟩
        obtain ⟨r9, hr9⟩ : ∃ r9, RP.2.sync = r9 := ⟨_, rfl⟩
        have S9 : St w w12 [cellsT g 90 (slotC pd fr sz), diskT pd LA.2, cellsT h 92 (rslotC pr fr sz), rdT pr RP.2.sync, cellsT wr.heap.size 55 [.int .i64 x.kind, .int .i64 x.keep, .int .i64 x.age, .slice x.a x.n x.c]] := ((((T12.front 2 rfl).front 3 rfl).front 3 rfl).front 3 rfl)
        rw [hd9, hr9] at S9 R9
        clear T10 T11 T11' T12 hd9 hr9 HP2 HP HSv HSt
        as_aux_lemma =>
          have hb9 := R9.out.bytes
          have hpl9 := R9.out.psLen
          have hw9 := R9.out.waits
          have hs9 := R9.out.syncs
          have hl9 := R9.out.len
          have hL := slLoad_any S9 (by rw [hl9]; exact hr) (by omega)
          obtain ⟨O, hO⟩ : ∃ O, d9.shows fr sz = O := ⟨_, rfl⟩
          rw [hO] at hL
          have HL := hid hL
          have HO := hid hO
          clear hL hO
          rcases O with _ | ⟨q9, age9⟩
          · skip
            go_wp2_with fail
            refine HL.out.mono ?_
            rintro e w21 ⟨a21, c21, rfl, l1, l2, l3, T1⟩
            have T1' : St w w21 (cellsT h 92 (rslotC pr fr sz) :: rdT pr r9 :: roT a21 (picL _) :: cellsT g 90 (slotC pd fr sz) :: diskT pd d9 :: [cellsT wr.heap.size 55 [.int .i64 x.kind, .int .i64 x.keep, .int .i64 x.age, .slice x.a x.n x.c]]) := (T1.front 4 rfl).front 4 rfl
            have hRL := rslLoad_any T1' (by rw [hb9.2.2]; exact hr) (by omega) (by rw [hb9.1, hb9.2.1, hb9.2.2])
            rw [hb9.1] at hRL
            have HRL := hid hRL
            have e0 : Hid (loadO (pic (piece d9.bytes (fr + 0 * sz) sz)) (pic (piece d9.bytes (fr + 1 * sz) sz)) = _) := HO.out
            rw [e0.out] at HRL
            have HLn := hid (And.intro l1 (And.intro l2 l3))
            clear hRL e0 T1 l1 l2 l3
            simp only [picA, Option.isSome_some, Option.isSome_none]
            go_wp2_with fail
            refine HRL.out.mono ?_
            rintro e w22 ⟨a22, c22, rfl, l1, l2, l3, T2⟩
            have HLm := hid (And.intro l1 (And.intro l2 l3))
            clear l1 l2 l3
            simp only [picI]
            go_wp2_with fail
            refine (hcmp T2 true a21 a22 [] [] 0 0 c21 c22 (by rfl) rfl rfl (by omega) (by omega) (by exact T2.roAt 3 rfl) (by exact T2.roAt 0 rfl)).mono ?_
            rintro e w23 ⟨rfl, T3, -⟩
            go_wp2_with fail
            refine (hbytes (by exact T3) 5 rfl (by omega) n hb9.2.1).mono ?_
            rintro e w24 ⟨a24, c24, rfl, T4, -⟩
            go_wp2_with fail
            refine (rdbytes_any (by exact T4.front 2 rfl) n hb9.2.2 (by omega)).mono ?_
            rintro e w25 ⟨a25, c25, rfl, T5, -⟩
            go_wp2_with fail
            refine (hcmp T5 true a24 a25 d9.bytes r9.bytes n n c24 c25 (by rw [hb9.1]; simp) hb9.2.1 (by rw [hb9.1]; exact hb9.2.1) (by unfold maxLen; omega) (by unfold maxLen; omega) (by exact T5.at 8 rfl) (by exact T5.at 0 rfl)).mono ?_
            rintro e w26 ⟨rfl, T6, -⟩
            go_wp2
            go_roundw
            case rel => exact ⟨k + 1, d9, r9, by omega, by go_num, R9.out, ((((T6.front 1 rfl).front 3 rfl).front 6 rfl).front 6 rfl).take 4⟩
            case measure => simp [intOf]; omega
          · have hql : q9.length ≤ maxLen := Nat.le_trans (T9len.out _ _ HO.out) (by unfold maxLen; omega)
            have g5 : decide ((0 : Int) ≤ (age9 : Int)) = true := decide_eq_true (by omega)
            go_wp2_with fail
            refine HL.out.mono ?_
            rintro e w21 ⟨a21, c21, rfl, l1, l2, l3, T1⟩
            have T1' : St w w21 (cellsT h 92 (rslotC pr fr sz) :: rdT pr r9 :: roT a21 (picL _) :: cellsT g 90 (slotC pd fr sz) :: diskT pd d9 :: [cellsT wr.heap.size 55 [.int .i64 x.kind, .int .i64 x.keep, .int .i64 x.age, .slice x.a x.n x.c]]) := (T1.front 4 rfl).front 4 rfl
            have hRL := rslLoad_any T1' (by rw [hb9.2.2]; exact hr) (by omega) (by rw [hb9.1, hb9.2.1, hb9.2.2])
            rw [hb9.1] at hRL
            have HRL := hid hRL
            have e0 : Hid (loadO (pic (piece d9.bytes (fr + 0 * sz) sz)) (pic (piece d9.bytes (fr + 1 * sz) sz)) = _) := HO.out
            rw [e0.out] at HRL
            have HLn := hid (And.intro l1 (And.intro l2 l3))
            clear hRL e0 T1 l1 l2 l3
            simp only [picA, Option.isSome_some, Option.isSome_none]
            go_wp2_with fail
            refine HRL.out.mono ?_
            rintro e w22 ⟨a22, c22, rfl, l1, l2, l3, T2⟩
            have HLm := hid (And.intro l1 (And.intro l2 l3))
            clear l1 l2 l3
            simp only [picI]
            go_wp2_with fail
            refine (hcmp T2 true a21 a22 q9 q9 q9.length q9.length c21 c22 (by simp) rfl rfl hql hql (by exact T2.roAt 3 rfl) (by exact T2.roAt 0 rfl)).mono ?_
            rintro e w23 ⟨rfl, T3, -⟩
            go_wp2_with fail
            refine (hbytes (by exact T3) 5 rfl (by omega) n hb9.2.1).mono ?_
            rintro e w24 ⟨a24, c24, rfl, T4, -⟩
            go_wp2_with fail
            refine (rdbytes_any (by exact T4.front 2 rfl) n hb9.2.2 (by omega)).mono ?_
            rintro e w25 ⟨a25, c25, rfl, T5, -⟩
            go_wp2_with fail
            refine (hcmp T5 true a24 a25 d9.bytes r9.bytes n n c24 c25 (by rw [hb9.1]; simp) hb9.2.1 (by rw [hb9.1]; exact hb9.2.1) (by unfold maxLen; omega) (by unfold maxLen; omega) (by exact T5.at 8 rfl) (by exact T5.at 0 rfl)).mono ?_
            rintro e w26 ⟨rfl, T6, -⟩
            go_wp2
            go_roundw
            case rel => exact ⟨k + 1, d9, r9, by omega, by go_num, R9.out, ((((T6.front 1 rfl).front 3 rfl).front 6 rfl).front 6 rfl).take 4⟩
            case measure => simp [intOf]; omega
      · have gz : (RP.1 == 0) = false := by simpa using hz
        have HZ := hid hz
        clear hz
        have y11a := T10.cell 4 rfl 2 rfl
        have y11b := T10.cell 4 rfl 3 rfl
        have hP := slSave_any (by exact (T10.front 3 rfl).front 3 rfl) (by rw [ll]; exact hr) (by omega) (by omega) x.a x.b x.n x.c hlen (by omega) HX.out.le HX.out.nil (Reads.old HX.out.isAt) x.age
        rw [HLA.out] at hP
        have HP2 := hid hP
        clear hP
        go_wp2_with fail
        refine HP2.out.mono ?_
        rintro e w12 ⟨rfl, T12⟩
        have R9 := hid (HSv.out.le (j := 3 * (k + 1)) (by omega))
        rw [if_neg HZ.out] at R9
        obtain ⟨d9, hd9⟩ : ∃ d9, LA.2 = d9 := ⟨_, rfl⟩
        obtain ⟨r9, hr9⟩ : ∃ r9, RP.2 = r9 := ⟨_, rfl⟩
        have S9 : St w w12 [cellsT g 90 (slotC pd fr sz), diskT pd LA.2, cellsT h 92 (rslotC pr fr sz), rdT pr RP.2, cellsT wr.heap.size 55 [.int .i64 x.kind, .int .i64 x.keep, .int .i64 x.age, .slice x.a x.n x.c]] := T12
        rw [hd9, hr9] at S9 R9
        clear T10 T12 hd9 hr9 HP2 HP HSv HSt
        as_aux_lemma =>
          have hb9 := R9.out.bytes
          have hpl9 := R9.out.psLen
          have hw9 := R9.out.waits
          have hs9 := R9.out.syncs
          have hl9 := R9.out.len
          have hL := slLoad_any S9 (by rw [hl9]; exact hr) (by omega)
          obtain ⟨O, hO⟩ : ∃ O, d9.shows fr sz = O := ⟨_, rfl⟩
          rw [hO] at hL
          have HL := hid hL
          have HO := hid hO
          clear hL hO
          rcases O with _ | ⟨q9, age9⟩
          · skip
            go_wp2_with fail
            refine HL.out.mono ?_
            rintro e w21 ⟨a21, c21, rfl, l1, l2, l3, T1⟩
            have T1' : St w w21 (cellsT h 92 (rslotC pr fr sz) :: rdT pr r9 :: roT a21 (picL _) :: cellsT g 90 (slotC pd fr sz) :: diskT pd d9 :: [cellsT wr.heap.size 55 [.int .i64 x.kind, .int .i64 x.keep, .int .i64 x.age, .slice x.a x.n x.c]]) := (T1.front 4 rfl).front 4 rfl
            have hRL := rslLoad_any T1' (by rw [hb9.2.2]; exact hr) (by omega) (by rw [hb9.1, hb9.2.1, hb9.2.2])
            rw [hb9.1] at hRL
            have HRL := hid hRL
            have e0 : Hid (loadO (pic (piece d9.bytes (fr + 0 * sz) sz)) (pic (piece d9.bytes (fr + 1 * sz) sz)) = _) := HO.out
            rw [e0.out] at HRL
            have HLn := hid (And.intro l1 (And.intro l2 l3))
            clear hRL e0 T1 l1 l2 l3
            simp only [picA, Option.isSome_some, Option.isSome_none]
            go_wp2_with fail
            refine HRL.out.mono ?_
            rintro e w22 ⟨a22, c22, rfl, l1, l2, l3, T2⟩
            have HLm := hid (And.intro l1 (And.intro l2 l3))
            clear l1 l2 l3
            simp only [picI]
            go_wp2_with fail
            refine (hcmp T2 true a21 a22 [] [] 0 0 c21 c22 (by rfl) rfl rfl (by omega) (by omega) (by exact T2.roAt 3 rfl) (by exact T2.roAt 0 rfl)).mono ?_
            rintro e w23 ⟨rfl, T3, -⟩
            go_wp2_with fail
            refine (hbytes (by exact T3) 5 rfl (by omega) n hb9.2.1).mono ?_
            rintro e w24 ⟨a24, c24, rfl, T4, -⟩
            go_wp2_with fail
            refine (rdbytes_any (by exact T4.front 2 rfl) n hb9.2.2 (by omega)).mono ?_
            rintro e w25 ⟨a25, c25, rfl, T5, -⟩
            go_wp2_with fail
            refine (hcmp T5 true a24 a25 d9.bytes r9.bytes n n c24 c25 (by rw [hb9.1]; simp) hb9.2.1 (by rw [hb9.1]; exact hb9.2.1) (by unfold maxLen; omega) (by unfold maxLen; omega) (by exact T5.at 8 rfl) (by exact T5.at 0 rfl)).mono ?_
            rintro e w26 ⟨rfl, T6, -⟩
            go_wp2
            go_roundw
            case rel => exact ⟨k + 1, d9, r9, by omega, by go_num, R9.out, ((((T6.front 1 rfl).front 3 rfl).front 6 rfl).front 6 rfl).take 4⟩
            case measure => simp [intOf]; omega
          · have hql : q9.length ≤ maxLen := Nat.le_trans (T9len.out _ _ HO.out) (by unfold maxLen; omega)
            have g5 : decide ((0 : Int) ≤ (age9 : Int)) = true := decide_eq_true (by omega)
            go_wp2_with fail
            refine HL.out.mono ?_
            rintro e w21 ⟨a21, c21, rfl, l1, l2, l3, T1⟩
            have T1' : St w w21 (cellsT h 92 (rslotC pr fr sz) :: rdT pr r9 :: roT a21 (picL _) :: cellsT g 90 (slotC pd fr sz) :: diskT pd d9 :: [cellsT wr.heap.size 55 [.int .i64 x.kind, .int .i64 x.keep, .int .i64 x.age, .slice x.a x.n x.c]]) := (T1.front 4 rfl).front 4 rfl
            have hRL := rslLoad_any T1' (by rw [hb9.2.2]; exact hr) (by omega) (by rw [hb9.1, hb9.2.1, hb9.2.2])
            rw [hb9.1] at hRL
            have HRL := hid hRL
            have e0 : Hid (loadO (pic (piece d9.bytes (fr + 0 * sz) sz)) (pic (piece d9.bytes (fr + 1 * sz) sz)) = _) := HO.out
            rw [e0.out] at HRL
            have HLn := hid (And.intro l1 (And.intro l2 l3))
            clear hRL e0 T1 l1 l2 l3
            simp only [picA, Option.isSome_some, Option.isSome_none]
            go_wp2_with fail
            refine HRL.out.mono ?_
            rintro e w22 ⟨a22, c22, rfl, l1, l2, l3, T2⟩
            have HLm := hid (And.intro l1 (And.intro l2 l3))
            clear l1 l2 l3
            simp only [picI]
            go_wp2_with fail
            refine (hcmp T2 true a21 a22 q9 q9 q9.length q9.length c21 c22 (by simp) rfl rfl hql hql (by exact T2.roAt 3 rfl) (by exact T2.roAt 0 rfl)).mono ?_
            rintro e w23 ⟨rfl, T3, -⟩
            go_wp2_with fail
            refine (hbytes (by exact T3) 5 rfl (by omega) n hb9.2.1).mono ?_
            rintro e w24 ⟨a24, c24, rfl, T4, -⟩
            go_wp2_with fail
            refine (rdbytes_any (by exact T4.front 2 rfl) n hb9.2.2 (by omega)).mono ?_
            rintro e w25 ⟨a25, c25, rfl, T5, -⟩
            go_wp2_with fail
            refine (hcmp T5 true a24 a25 d9.bytes r9.bytes n n c24 c25 (by rw [hb9.1]; simp) hb9.2.1 (by rw [hb9.1]; exact hb9.2.1) (by unfold maxLen; omega) (by unfold maxLen; omega) (by exact T5.at 8 rfl) (by exact T5.at 0 rfl)).mono ?_
            rintro e w26 ⟨rfl, T6, -⟩
            go_wp2
            go_roundw
            case rel => exact ⟨k + 1, d9, r9, by omega, by go_num, R9.out, ((((T6.front 1 rfl).front 3 rfl).front 6 rfl).front 6 rfl).take 4⟩
            case measure => simp [intOf]; omega
    have g0' : (x.kind == 0) = false := by simpa using hk0
    obtain ⟨LA, hLA⟩ : ∃ LA, slStart d fr sz x.b x.age = LA := ⟨_, rfl⟩
    rw [hLA] at hst
    have HLA := hid hLA
    have tq : (LA.1 != RP.1) = false := by rw [hst.1]; simp
    have HSt := hid hst.2
    clear hLA hsv hst
    by_cases hk1 : x.kind = 1
    · have g1' : (x.kind == 1) = true := by simpa using hk1
      clear hk0 hk1
      go_wp2_with fail
      refine wp_region_held_drew (S := (fun w' => w'.cell? ⟨wr.heap.size, 3, none⟩ = some (.slice x.a x.n x.c) ∧ w'.cell? ⟨wr.heap.size, 2, none⟩ = some (.int .i64 x.age))) (by kernel_rfl) (by exact ⟨S5.drew.cell 4 rfl 3 rfl, S5.drew.cell 4 rfl 2 rfl⟩) (fun hHeld => ?_)
      change wpAnyH _ _ _ _ _ 13 (Array.replicate 13 false) _ _
      refine wpAnyH_take (i := 0) (v := ?v1) (ops_at rfl) (by kernel_rfl) (by kernel_rfl) (by kernel_rfl) (fun _ _ _ h => h) (Or.inl ⟨by rfl, ?hy1⟩) (by assumption) ?rest1
      case hy1 => intro w' hSw; (try dsimp only at hSw); go_simp; try with_reducible rfl
      try simp only [Act.put, List.setIfInBounds_toArray, List.set_cons_zero, List.set_cons_succ]
      refine wpAnyH_take (i := 1) (v := ?v2) (ops_at rfl) (by kernel_rfl) (by kernel_rfl) (by kernel_rfl) (fun _ _ _ h => h) (Or.inl ⟨by rfl, ?hy2⟩) (by assumption) ?rest2
      case hy2 => intro w' hSw; (try dsimp only at hSw); go_simp; try with_reducible rfl
      try simp only [Act.put, List.setIfInBounds_toArray, List.set_cons_zero, List.set_cons_succ]
      refine wpAnyH_take (i := 2) (v := ?v3) (ops_at rfl) (by kernel_rfl) (by kernel_rfl) (by kernel_rfl) (fun _ _ _ h => h) (Or.inl ⟨by rfl, ?hy3⟩) (by assumption) ?rest3
      case hy3 => intro w' hSw; (try dsimp only at hSw); go_simp; try with_reducible rfl
      try simp only [Act.put, List.setIfInBounds_toArray, List.set_cons_zero, List.set_cons_succ]
      refine wpAnyH_take (i := 3) (v := ?v4) (ops_at rfl) (by kernel_rfl) (by kernel_rfl) (by kernel_rfl) (fun _ _ _ h => h) (Or.inl ⟨by rfl, ?hy4⟩) (by assumption) ?rest4
      case hy4 => intro w' hSw; (try dsimp only at hSw); go_simp; try with_reducible rfl
      try simp only [Act.put, List.setIfInBounds_toArray, List.set_cons_zero, List.set_cons_succ]
      refine wpAnyH_take (i := 4) (v := ?v5) (ops_at rfl) (by kernel_rfl) (by kernel_rfl) (by kernel_rfl) (fun _ _ _ h => h) (Or.inl ⟨by rfl, ?hy5⟩) (by assumption) ?rest5
      case hy5 => intro w' hSw; (try dsimp only at hSw); go_simp; try with_reducible rfl
      try simp only [Act.put, List.setIfInBounds_toArray, List.set_cons_zero, List.set_cons_succ]
      refine wpAnyH_take (i := 6) (v := ?v6) (ops_at rfl) (by kernel_rfl) (by kernel_rfl) (by kernel_rfl) (fun _ _ _ h => h) (Or.inl ⟨by rfl, ?hy6⟩) (by assumption) ?rest6
      case hy6 => intro w' hSw; (try dsimp only at hSw); go_simp; try with_reducible rfl
      try simp only [Act.put, List.setIfInBounds_toArray, List.set_cons_zero, List.set_cons_succ]
      refine wpAnyH_take (i := 7) (v := ?v7) (ops_at rfl) (by kernel_rfl) (by kernel_rfl) (by kernel_rfl) (fun _ _ _ h => h) (Or.inl ⟨by rfl, ?hy7⟩) (by assumption) ?rest7
      case hy7 => intro w' hSw; (try dsimp only at hSw); go_simp; try with_reducible rfl
      try simp only [Act.put, List.setIfInBounds_toArray, List.set_cons_zero, List.set_cons_succ]
      refine wpAnyH_take (i := 8) (v := ?v8) (ops_at rfl) (by kernel_rfl) (by kernel_rfl) (by kernel_rfl) (fun _ _ _ h => h) (Or.inl ⟨by rfl, ?hy8⟩) (by assumption) ?rest8
      case hy8 => intro w' hSw; (try dsimp only at hSw); go_simp; try with_reducible rfl
      try simp only [Act.put, List.setIfInBounds_toArray, List.set_cons_zero, List.set_cons_succ]
      refine wpAnyH_take (i := 9) (v := ?v9) (ops_at rfl) (by kernel_rfl) (by kernel_rfl) (by kernel_rfl) (fun _ _ _ h => h) (Or.inl ⟨by rfl, ?hy9⟩) (by assumption) ?rest9
      case hy9 => intro w' hSw; (try dsimp only at hSw); go_simp; try with_reducible rfl
      try simp only [Act.put, List.setIfInBounds_toArray, List.set_cons_zero, List.set_cons_succ]
      refine wpAnyH_take (i := 10) (v := ?v10) (ops_at rfl) (by kernel_rfl) (by kernel_rfl) (by kernel_rfl) (fun _ _ _ h => h) (Or.inl ⟨by rfl, ?hy10⟩) (by assumption) ?rest10
      case hy10 => intro w' hSw; (try dsimp only at hSw); go_simp; try with_reducible rfl
      try simp only [Act.put, List.setIfInBounds_toArray, List.set_cons_zero, List.set_cons_succ]
      refine wpAnyH_ready (rs := [5]) (by kernel_rfl) (by simp) ?_
      refine AllReadyH.cons (ops_at rfl) (fun K hK => ?_) AllReadyH.nil
      go_simp
      have hA3 := slStart_any (by exact S5.drew) (by rw [ll]; exact hr) (by omega) (by omega) x.a x.b x.n x.c hlen (by omega) HX.out.le HX.out.nil (Reads.old HX.out.isAt) x.age
      rw [HLA.out] at hA3
      refine hA3.mono ?_
      rintro e w10 ⟨rfl, T10⟩
      clear hA3
      refine hK.out _ _ (by exact ⟨T10.cell 4 rfl 3 rfl, T10.cell 4 rfl 2 rfl⟩) (fun hHeld => ?_)
      clear hK K
      try simp only [Act.put, List.setIfInBounds_toArray, List.set_cons_zero, List.set_cons_succ]
      refine wpAnyH_ready (rs := [11]) (by kernel_rfl) (by simp) ?_
      refine AllReadyH.cons (ops_at rfl) (fun K hK => ?_) AllReadyH.nil
      go_simp
      have hA3 := rslStart_any (by exact (T10.front 3 rfl).front 3 rfl) (by rw [lb.2.2]; exact hr) (by omega) (by omega) (by rw [lb.1, lb.2.1, lb.2.2]) x.a x.b x.n x.c hlen (by omega) HX.out.le (Reads.old HX.out.isAt) x.age
      rw [HRP.out] at hA3
      refine hA3.mono ?_
      rintro e w11 ⟨rfl, T11⟩
      clear hA3
      refine hK.out _ _ (by exact ⟨T11.cell 4 rfl 3 rfl, T11.cell 4 rfl 2 rfl⟩) (fun hHeld => ?_)
      clear hK K
      try simp only [Act.put, List.setIfInBounds_toArray, List.set_cons_zero, List.set_cons_succ]
      refine wpAnyH_take (i := 12) (v := ?v13) (ops_at rfl) (by kernel_rfl) (by kernel_rfl) (by kernel_rfl) (fun _ _ _ h => h) (Or.inl ⟨by rfl, ?hy13⟩) (by assumption) ?rest13
      case hy13 => intro w' hSw; (try dsimp only at hSw); go_simp; try with_reducible rfl
      try simp only [Act.put, List.setIfInBounds_toArray, List.set_cons_zero, List.set_cons_succ]
      refine wpAnyH_done (by kernel_rfl) ?_ _
      have S8 : St w w11 [cellsT g 90 (slotC pd fr sz), diskT pd LA.2, cellsT h 92 (rslotC pr fr sz), rdT pr RP.2, cellsT wr.heap.size 55 [.int .i64 x.kind, .int .i64 x.keep, .int .i64 x.age, .slice x.a x.n x.c]] := (T11.front 3 rfl).front 3 rfl
      have y8a := S8.cell 4 rfl 0 rfl
      have y8b := S8.cell 4 rfl 1 rfl
      have hw8 := HSt.out.waits
      have hp8 := HSt.out.psLen
      clear T10 T11
      go_wp2_with fail
      refine (hcrash S8 1 rfl x.keep HX.out.k0 HX.out.k1 (by omega)).mono ?_
      rintro e w12 ⟨rfl, T12⟩
      have y12 := T12.cell 4 rfl 1 rfl
      go_wp2_with fail
      refine (rdcrash_any (by exact T12.front 3 rfl) x.keep (by omega)).mono ?_
      rintro e w13 ⟨rfl, T13⟩
      have R9 := hid ((HSt.out.crash x.keep).le (j := 3 * (k + 1)) (by omega))
      obtain ⟨d9, hd9⟩ : ∃ d9, LA.2.crash x.keep = d9 := ⟨_, rfl⟩
      obtain ⟨r9, hr9⟩ : ∃ r9, RP.2.crash x.keep = r9 := ⟨_, rfl⟩
      have S9 : St w w13 [cellsT g 90 (slotC pd fr sz), diskT pd (LA.2.crash x.keep), cellsT h 92 (rslotC pr fr sz), rdT pr (RP.2.crash x.keep), cellsT wr.heap.size 55 [.int .i64 x.kind, .int .i64 x.keep, .int .i64 x.age, .slice x.a x.n x.c]] := ((T13.front 3 rfl).front 3 rfl).front 3 rfl
      rw [hd9, hr9] at S9 R9
      clear T12 T13 S8 hd9 hr9 HSt
      as_aux_lemma =>
        have hb9 := R9.out.bytes
        have hpl9 := R9.out.psLen
        have hw9 := R9.out.waits
        have hs9 := R9.out.syncs
        have hl9 := R9.out.len
        have hL := slLoad_any S9 (by rw [hl9]; exact hr) (by omega)
        obtain ⟨O, hO⟩ : ∃ O, d9.shows fr sz = O := ⟨_, rfl⟩
        rw [hO] at hL
        have HL := hid hL
        have HO := hid hO
        clear hL hO
        rcases O with _ | ⟨q9, age9⟩
        · skip
          go_wp2_with fail
          refine HL.out.mono ?_
          rintro e w21 ⟨a21, c21, rfl, l1, l2, l3, T1⟩
          have T1' : St w w21 (cellsT h 92 (rslotC pr fr sz) :: rdT pr r9 :: roT a21 (picL _) :: cellsT g 90 (slotC pd fr sz) :: diskT pd d9 :: [cellsT wr.heap.size 55 [.int .i64 x.kind, .int .i64 x.keep, .int .i64 x.age, .slice x.a x.n x.c]]) := (T1.front 4 rfl).front 4 rfl
          have hRL := rslLoad_any T1' (by rw [hb9.2.2]; exact hr) (by omega) (by rw [hb9.1, hb9.2.1, hb9.2.2])
          rw [hb9.1] at hRL
          have HRL := hid hRL
          have e0 : Hid (loadO (pic (piece d9.bytes (fr + 0 * sz) sz)) (pic (piece d9.bytes (fr + 1 * sz) sz)) = _) := HO.out
          rw [e0.out] at HRL
          have HLn := hid (And.intro l1 (And.intro l2 l3))
          clear hRL e0 T1 l1 l2 l3
          simp only [picA, Option.isSome_some, Option.isSome_none]
          go_wp2_with fail
          refine HRL.out.mono ?_
          rintro e w22 ⟨a22, c22, rfl, l1, l2, l3, T2⟩
          have HLm := hid (And.intro l1 (And.intro l2 l3))
          clear l1 l2 l3
          simp only [picI]
          go_wp2_with fail
          refine (hcmp T2 true a21 a22 [] [] 0 0 c21 c22 (by rfl) rfl rfl (by omega) (by omega) (by exact T2.roAt 3 rfl) (by exact T2.roAt 0 rfl)).mono ?_
          rintro e w23 ⟨rfl, T3, -⟩
          go_wp2_with fail
          refine (hbytes (by exact T3) 5 rfl (by omega) n hb9.2.1).mono ?_
          rintro e w24 ⟨a24, c24, rfl, T4, -⟩
          go_wp2_with fail
          refine (rdbytes_any (by exact T4.front 2 rfl) n hb9.2.2 (by omega)).mono ?_
          rintro e w25 ⟨a25, c25, rfl, T5, -⟩
          go_wp2_with fail
          refine (hcmp T5 true a24 a25 d9.bytes r9.bytes n n c24 c25 (by rw [hb9.1]; simp) hb9.2.1 (by rw [hb9.1]; exact hb9.2.1) (by unfold maxLen; omega) (by unfold maxLen; omega) (by exact T5.at 8 rfl) (by exact T5.at 0 rfl)).mono ?_
          rintro e w26 ⟨rfl, T6, -⟩
          go_wp2
          go_roundw
          case rel => exact ⟨k + 1, d9, r9, by omega, by go_num, R9.out, ((((T6.front 1 rfl).front 3 rfl).front 6 rfl).front 6 rfl).take 4⟩
          case measure => simp [intOf]; omega
        · have hql : q9.length ≤ maxLen := Nat.le_trans (T9len.out _ _ HO.out) (by unfold maxLen; omega)
          have g5 : decide ((0 : Int) ≤ (age9 : Int)) = true := decide_eq_true (by omega)
          go_wp2_with fail
          refine HL.out.mono ?_
          rintro e w21 ⟨a21, c21, rfl, l1, l2, l3, T1⟩
          have T1' : St w w21 (cellsT h 92 (rslotC pr fr sz) :: rdT pr r9 :: roT a21 (picL _) :: cellsT g 90 (slotC pd fr sz) :: diskT pd d9 :: [cellsT wr.heap.size 55 [.int .i64 x.kind, .int .i64 x.keep, .int .i64 x.age, .slice x.a x.n x.c]]) := (T1.front 4 rfl).front 4 rfl
          have hRL := rslLoad_any T1' (by rw [hb9.2.2]; exact hr) (by omega) (by rw [hb9.1, hb9.2.1, hb9.2.2])
          rw [hb9.1] at hRL
          have HRL := hid hRL
          have e0 : Hid (loadO (pic (piece d9.bytes (fr + 0 * sz) sz)) (pic (piece d9.bytes (fr + 1 * sz) sz)) = _) := HO.out
          rw [e0.out] at HRL
          have HLn := hid (And.intro l1 (And.intro l2 l3))
          clear hRL e0 T1 l1 l2 l3
          simp only [picA, Option.isSome_some, Option.isSome_none]
          go_wp2_with fail
          refine HRL.out.mono ?_
          rintro e w22 ⟨a22, c22, rfl, l1, l2, l3, T2⟩
          have HLm := hid (And.intro l1 (And.intro l2 l3))
          clear l1 l2 l3
          simp only [picI]
          go_wp2_with fail
          refine (hcmp T2 true a21 a22 q9 q9 q9.length q9.length c21 c22 (by simp) rfl rfl hql hql (by exact T2.roAt 3 rfl) (by exact T2.roAt 0 rfl)).mono ?_
          rintro e w23 ⟨rfl, T3, -⟩
          go_wp2_with fail
          refine (hbytes (by exact T3) 5 rfl (by omega) n hb9.2.1).mono ?_
          rintro e w24 ⟨a24, c24, rfl, T4, -⟩
          go_wp2_with fail
          refine (rdbytes_any (by exact T4.front 2 rfl) n hb9.2.2 (by omega)).mono ?_
          rintro e w25 ⟨a25, c25, rfl, T5, -⟩
          go_wp2_with fail
          refine (hcmp T5 true a24 a25 d9.bytes r9.bytes n n c24 c25 (by rw [hb9.1]; simp) hb9.2.1 (by rw [hb9.1]; exact hb9.2.1) (by unfold maxLen; omega) (by unfold maxLen; omega) (by exact T5.at 8 rfl) (by exact T5.at 0 rfl)).mono ?_
          rintro e w26 ⟨rfl, T6, -⟩
          go_wp2
          go_roundw
          case rel => exact ⟨k + 1, d9, r9, by omega, by go_num, R9.out, ((((T6.front 1 rfl).front 3 rfl).front 6 rfl).front 6 rfl).take 4⟩
          case measure => simp [intOf]; omega
    have g1' : (x.kind == 1) = false := by simpa using hk1
    by_cases hk2 : x.kind = 2
    · have g2' : (x.kind == 2) = true := by simpa using hk2
      clear hk0 hk1 hk2
      go_wp2_with fail
      refine wp_region_held_drew (S := (fun w' => w'.cell? ⟨wr.heap.size, 3, none⟩ = some (.slice x.a x.n x.c) ∧ w'.cell? ⟨wr.heap.size, 2, none⟩ = some (.int .i64 x.age))) (by kernel_rfl) (by exact ⟨S5.drew.cell 4 rfl 3 rfl, S5.drew.cell 4 rfl 2 rfl⟩) (fun hHeld => ?_)
      change wpAnyH _ _ _ _ _ 13 (Array.replicate 13 false) _ _
      refine wpAnyH_take (i := 0) (v := ?v14) (ops_at rfl) (by kernel_rfl) (by kernel_rfl) (by kernel_rfl) (fun _ _ _ h => h) (Or.inl ⟨by rfl, ?hy14⟩) (by assumption) ?rest14
      case hy14 => intro w' hSw; (try dsimp only at hSw); go_simp; try with_reducible rfl
      try simp only [Act.put, List.setIfInBounds_toArray, List.set_cons_zero, List.set_cons_succ]
      refine wpAnyH_take (i := 1) (v := ?v15) (ops_at rfl) (by kernel_rfl) (by kernel_rfl) (by kernel_rfl) (fun _ _ _ h => h) (Or.inl ⟨by rfl, ?hy15⟩) (by assumption) ?rest15
      case hy15 => intro w' hSw; (try dsimp only at hSw); go_simp; try with_reducible rfl
      try simp only [Act.put, List.setIfInBounds_toArray, List.set_cons_zero, List.set_cons_succ]
      refine wpAnyH_take (i := 2) (v := ?v16) (ops_at rfl) (by kernel_rfl) (by kernel_rfl) (by kernel_rfl) (fun _ _ _ h => h) (Or.inl ⟨by rfl, ?hy16⟩) (by assumption) ?rest16
      case hy16 => intro w' hSw; (try dsimp only at hSw); go_simp; try with_reducible rfl
      try simp only [Act.put, List.setIfInBounds_toArray, List.set_cons_zero, List.set_cons_succ]
      refine wpAnyH_take (i := 3) (v := ?v17) (ops_at rfl) (by kernel_rfl) (by kernel_rfl) (by kernel_rfl) (fun _ _ _ h => h) (Or.inl ⟨by rfl, ?hy17⟩) (by assumption) ?rest17
      case hy17 => intro w' hSw; (try dsimp only at hSw); go_simp; try with_reducible rfl
      try simp only [Act.put, List.setIfInBounds_toArray, List.set_cons_zero, List.set_cons_succ]
      refine wpAnyH_take (i := 4) (v := ?v18) (ops_at rfl) (by kernel_rfl) (by kernel_rfl) (by kernel_rfl) (fun _ _ _ h => h) (Or.inl ⟨by rfl, ?hy18⟩) (by assumption) ?rest18
      case hy18 => intro w' hSw; (try dsimp only at hSw); go_simp; try with_reducible rfl
      try simp only [Act.put, List.setIfInBounds_toArray, List.set_cons_zero, List.set_cons_succ]
      refine wpAnyH_take (i := 6) (v := ?v19) (ops_at rfl) (by kernel_rfl) (by kernel_rfl) (by kernel_rfl) (fun _ _ _ h => h) (Or.inl ⟨by rfl, ?hy19⟩) (by assumption) ?rest19
      case hy19 => intro w' hSw; (try dsimp only at hSw); go_simp; try with_reducible rfl
      try simp only [Act.put, List.setIfInBounds_toArray, List.set_cons_zero, List.set_cons_succ]
      refine wpAnyH_take (i := 7) (v := ?v20) (ops_at rfl) (by kernel_rfl) (by kernel_rfl) (by kernel_rfl) (fun _ _ _ h => h) (Or.inl ⟨by rfl, ?hy20⟩) (by assumption) ?rest20
      case hy20 => intro w' hSw; (try dsimp only at hSw); go_simp; try with_reducible rfl
      try simp only [Act.put, List.setIfInBounds_toArray, List.set_cons_zero, List.set_cons_succ]
      refine wpAnyH_take (i := 8) (v := ?v21) (ops_at rfl) (by kernel_rfl) (by kernel_rfl) (by kernel_rfl) (fun _ _ _ h => h) (Or.inl ⟨by rfl, ?hy21⟩) (by assumption) ?rest21
      case hy21 => intro w' hSw; (try dsimp only at hSw); go_simp; try with_reducible rfl
      try simp only [Act.put, List.setIfInBounds_toArray, List.set_cons_zero, List.set_cons_succ]
      refine wpAnyH_take (i := 9) (v := ?v22) (ops_at rfl) (by kernel_rfl) (by kernel_rfl) (by kernel_rfl) (fun _ _ _ h => h) (Or.inl ⟨by rfl, ?hy22⟩) (by assumption) ?rest22
      case hy22 => intro w' hSw; (try dsimp only at hSw); go_simp; try with_reducible rfl
      try simp only [Act.put, List.setIfInBounds_toArray, List.set_cons_zero, List.set_cons_succ]
      refine wpAnyH_take (i := 10) (v := ?v23) (ops_at rfl) (by kernel_rfl) (by kernel_rfl) (by kernel_rfl) (fun _ _ _ h => h) (Or.inl ⟨by rfl, ?hy23⟩) (by assumption) ?rest23
      case hy23 => intro w' hSw; (try dsimp only at hSw); go_simp; try with_reducible rfl
      try simp only [Act.put, List.setIfInBounds_toArray, List.set_cons_zero, List.set_cons_succ]
      refine wpAnyH_ready (rs := [5]) (by kernel_rfl) (by simp) ?_
      refine AllReadyH.cons (ops_at rfl) (fun K hK => ?_) AllReadyH.nil
      go_simp
      have hA3 := slStart_any (by exact S5.drew) (by rw [ll]; exact hr) (by omega) (by omega) x.a x.b x.n x.c hlen (by omega) HX.out.le HX.out.nil (Reads.old HX.out.isAt) x.age
      rw [HLA.out] at hA3
      refine hA3.mono ?_
      rintro e w10 ⟨rfl, T10⟩
      clear hA3
      refine hK.out _ _ (by exact ⟨T10.cell 4 rfl 3 rfl, T10.cell 4 rfl 2 rfl⟩) (fun hHeld => ?_)
      clear hK K
      try simp only [Act.put, List.setIfInBounds_toArray, List.set_cons_zero, List.set_cons_succ]
      refine wpAnyH_ready (rs := [11]) (by kernel_rfl) (by simp) ?_
      refine AllReadyH.cons (ops_at rfl) (fun K hK => ?_) AllReadyH.nil
      go_simp
      have hA3 := rslStart_any (by exact (T10.front 3 rfl).front 3 rfl) (by rw [lb.2.2]; exact hr) (by omega) (by omega) (by rw [lb.1, lb.2.1, lb.2.2]) x.a x.b x.n x.c hlen (by omega) HX.out.le (Reads.old HX.out.isAt) x.age
      rw [HRP.out] at hA3
      refine hA3.mono ?_
      rintro e w11 ⟨rfl, T11⟩
      clear hA3
      refine hK.out _ _ (by exact ⟨T11.cell 4 rfl 3 rfl, T11.cell 4 rfl 2 rfl⟩) (fun hHeld => ?_)
      clear hK K
      try simp only [Act.put, List.setIfInBounds_toArray, List.set_cons_zero, List.set_cons_succ]
      refine wpAnyH_take (i := 12) (v := ?v26) (ops_at rfl) (by kernel_rfl) (by kernel_rfl) (by kernel_rfl) (fun _ _ _ h => h) (Or.inl ⟨by rfl, ?hy26⟩) (by assumption) ?rest26
      case hy26 => intro w' hSw; (try dsimp only at hSw); go_simp; try with_reducible rfl
      try simp only [Act.put, List.setIfInBounds_toArray, List.set_cons_zero, List.set_cons_succ]
      refine wpAnyH_done (by kernel_rfl) ?_ _
      have S8 : St w w11 [cellsT g 90 (slotC pd fr sz), diskT pd LA.2, cellsT h 92 (rslotC pr fr sz), rdT pr RP.2, cellsT wr.heap.size 55 [.int .i64 x.kind, .int .i64 x.keep, .int .i64 x.age, .slice x.a x.n x.c]] := (T11.front 3 rfl).front 3 rfl
      have y8a := S8.cell 4 rfl 0 rfl
      have y8b := S8.cell 4 rfl 1 rfl
      have hw8 := HSt.out.waits
      have hp8 := HSt.out.psLen
      clear T10 T11
      have R9 := hid ((HSt.out).le (j := 3 * (k + 1)) (by omega))
      obtain ⟨d9, hd9⟩ : ∃ d9, LA.2 = d9 := ⟨_, rfl⟩
      obtain ⟨r9, hr9⟩ : ∃ r9, RP.2 = r9 := ⟨_, rfl⟩
      have S9 := S8
      rw [hd9, hr9] at S9 R9
      clear S8 hd9 hr9 HSt
      as_aux_lemma =>
        have hb9 := R9.out.bytes
        have hpl9 := R9.out.psLen
        have hw9 := R9.out.waits
        have hs9 := R9.out.syncs
        have hl9 := R9.out.len
        have hL := slLoad_any S9 (by rw [hl9]; exact hr) (by omega)
        obtain ⟨O, hO⟩ : ∃ O, d9.shows fr sz = O := ⟨_, rfl⟩
        rw [hO] at hL
        have HL := hid hL
        have HO := hid hO
        clear hL hO
        rcases O with _ | ⟨q9, age9⟩
        · skip
          go_wp2_with fail
          refine HL.out.mono ?_
          rintro e w21 ⟨a21, c21, rfl, l1, l2, l3, T1⟩
          have T1' : St w w21 (cellsT h 92 (rslotC pr fr sz) :: rdT pr r9 :: roT a21 (picL _) :: cellsT g 90 (slotC pd fr sz) :: diskT pd d9 :: [cellsT wr.heap.size 55 [.int .i64 x.kind, .int .i64 x.keep, .int .i64 x.age, .slice x.a x.n x.c]]) := (T1.front 4 rfl).front 4 rfl
          have hRL := rslLoad_any T1' (by rw [hb9.2.2]; exact hr) (by omega) (by rw [hb9.1, hb9.2.1, hb9.2.2])
          rw [hb9.1] at hRL
          have HRL := hid hRL
          have e0 : Hid (loadO (pic (piece d9.bytes (fr + 0 * sz) sz)) (pic (piece d9.bytes (fr + 1 * sz) sz)) = _) := HO.out
          rw [e0.out] at HRL
          have HLn := hid (And.intro l1 (And.intro l2 l3))
          clear hRL e0 T1 l1 l2 l3
          simp only [picA, Option.isSome_some, Option.isSome_none]
          go_wp2_with fail
          refine HRL.out.mono ?_
          rintro e w22 ⟨a22, c22, rfl, l1, l2, l3, T2⟩
          have HLm := hid (And.intro l1 (And.intro l2 l3))
          clear l1 l2 l3
          simp only [picI]
          go_wp2_with fail
          refine (hcmp T2 true a21 a22 [] [] 0 0 c21 c22 (by rfl) rfl rfl (by omega) (by omega) (by exact T2.roAt 3 rfl) (by exact T2.roAt 0 rfl)).mono ?_
          rintro e w23 ⟨rfl, T3, -⟩
          go_wp2_with fail
          refine (hbytes (by exact T3) 5 rfl (by omega) n hb9.2.1).mono ?_
          rintro e w24 ⟨a24, c24, rfl, T4, -⟩
          go_wp2_with fail
          refine (rdbytes_any (by exact T4.front 2 rfl) n hb9.2.2 (by omega)).mono ?_
          rintro e w25 ⟨a25, c25, rfl, T5, -⟩
          go_wp2_with fail
          refine (hcmp T5 true a24 a25 d9.bytes r9.bytes n n c24 c25 (by rw [hb9.1]; simp) hb9.2.1 (by rw [hb9.1]; exact hb9.2.1) (by unfold maxLen; omega) (by unfold maxLen; omega) (by exact T5.at 8 rfl) (by exact T5.at 0 rfl)).mono ?_
          rintro e w26 ⟨rfl, T6, -⟩
          go_wp2
          go_roundw
          case rel => exact ⟨k + 1, d9, r9, by omega, by go_num, R9.out, ((((T6.front 1 rfl).front 3 rfl).front 6 rfl).front 6 rfl).take 4⟩
          case measure => simp [intOf]; omega
        · have hql : q9.length ≤ maxLen := Nat.le_trans (T9len.out _ _ HO.out) (by unfold maxLen; omega)
          have g5 : decide ((0 : Int) ≤ (age9 : Int)) = true := decide_eq_true (by omega)
          go_wp2_with fail
          refine HL.out.mono ?_
          rintro e w21 ⟨a21, c21, rfl, l1, l2, l3, T1⟩
          have T1' : St w w21 (cellsT h 92 (rslotC pr fr sz) :: rdT pr r9 :: roT a21 (picL _) :: cellsT g 90 (slotC pd fr sz) :: diskT pd d9 :: [cellsT wr.heap.size 55 [.int .i64 x.kind, .int .i64 x.keep, .int .i64 x.age, .slice x.a x.n x.c]]) := (T1.front 4 rfl).front 4 rfl
          have hRL := rslLoad_any T1' (by rw [hb9.2.2]; exact hr) (by omega) (by rw [hb9.1, hb9.2.1, hb9.2.2])
          rw [hb9.1] at hRL
          have HRL := hid hRL
          have e0 : Hid (loadO (pic (piece d9.bytes (fr + 0 * sz) sz)) (pic (piece d9.bytes (fr + 1 * sz) sz)) = _) := HO.out
          rw [e0.out] at HRL
          have HLn := hid (And.intro l1 (And.intro l2 l3))
          clear hRL e0 T1 l1 l2 l3
          simp only [picA, Option.isSome_some, Option.isSome_none]
          go_wp2_with fail
          refine HRL.out.mono ?_
          rintro e w22 ⟨a22, c22, rfl, l1, l2, l3, T2⟩
          have HLm := hid (And.intro l1 (And.intro l2 l3))
          clear l1 l2 l3
          simp only [picI]
          go_wp2_with fail
          refine (hcmp T2 true a21 a22 q9 q9 q9.length q9.length c21 c22 (by simp) rfl rfl hql hql (by exact T2.roAt 3 rfl) (by exact T2.roAt 0 rfl)).mono ?_
          rintro e w23 ⟨rfl, T3, -⟩
          go_wp2_with fail
          refine (hbytes (by exact T3) 5 rfl (by omega) n hb9.2.1).mono ?_
          rintro e w24 ⟨a24, c24, rfl, T4, -⟩
          go_wp2_with fail
          refine (rdbytes_any (by exact T4.front 2 rfl) n hb9.2.2 (by omega)).mono ?_
          rintro e w25 ⟨a25, c25, rfl, T5, -⟩
          go_wp2_with fail
          refine (hcmp T5 true a24 a25 d9.bytes r9.bytes n n c24 c25 (by rw [hb9.1]; simp) hb9.2.1 (by rw [hb9.1]; exact hb9.2.1) (by unfold maxLen; omega) (by unfold maxLen; omega) (by exact T5.at 8 rfl) (by exact T5.at 0 rfl)).mono ?_
          rintro e w26 ⟨rfl, T6, -⟩
          go_wp2
          go_roundw
          case rel => exact ⟨k + 1, d9, r9, by omega, by go_num, R9.out, ((((T6.front 1 rfl).front 3 rfl).front 6 rfl).front 6 rfl).take 4⟩
          case measure => simp [intOf]; omega
    have g2' : (x.kind == 2) = false := by simpa using hk2
    clear hk0 hk1 hk2
    have R9 := hid (HR.out.le (j := 3 * (k + 1)) (by omega))
    obtain ⟨d9, hd9⟩ : ∃ d9, d = d9 := ⟨_, rfl⟩
    obtain ⟨r9, hr9⟩ : ∃ r9, r = r9 := ⟨_, rfl⟩
    have S9 := S5
    rw [hd9, hr9] at S9 R9
    clear hd9 hr9 HSt
    as_aux_lemma =>
      have hb9 := R9.out.bytes
      have hpl9 := R9.out.psLen
      have hw9 := R9.out.waits
      have hs9 := R9.out.syncs
      have hl9 := R9.out.len
      have hL := slLoad_any S9 (by rw [hl9]; exact hr) (by omega)
      obtain ⟨O, hO⟩ : ∃ O, d9.shows fr sz = O := ⟨_, rfl⟩
      rw [hO] at hL
      have HL := hid hL
      have HO := hid hO
      clear hL hO
      rcases O with _ | ⟨q9, age9⟩
      · skip
        go_wp2_with fail
        refine HL.out.mono ?_
        rintro e w21 ⟨a21, c21, rfl, l1, l2, l3, T1⟩
        have T1' : St w w21 (cellsT h 92 (rslotC pr fr sz) :: rdT pr r9 :: roT a21 (picL _) :: cellsT g 90 (slotC pd fr sz) :: diskT pd d9 :: [cellsT wr.heap.size 55 [.int .i64 x.kind, .int .i64 x.keep, .int .i64 x.age, .slice x.a x.n x.c]]) := (T1.front 4 rfl).front 4 rfl
        have hRL := rslLoad_any T1' (by rw [hb9.2.2]; exact hr) (by omega) (by rw [hb9.1, hb9.2.1, hb9.2.2])
        rw [hb9.1] at hRL
        have HRL := hid hRL
        have e0 : Hid (loadO (pic (piece d9.bytes (fr + 0 * sz) sz)) (pic (piece d9.bytes (fr + 1 * sz) sz)) = _) := HO.out
        rw [e0.out] at HRL
        have HLn := hid (And.intro l1 (And.intro l2 l3))
        clear hRL e0 T1 l1 l2 l3
        simp only [picA, Option.isSome_some, Option.isSome_none]
        go_wp2_with fail
        refine HRL.out.mono ?_
        rintro e w22 ⟨a22, c22, rfl, l1, l2, l3, T2⟩
        have HLm := hid (And.intro l1 (And.intro l2 l3))
        clear l1 l2 l3
        simp only [picI]
        go_wp2_with fail
        refine (hcmp T2 true a21 a22 [] [] 0 0 c21 c22 (by rfl) rfl rfl (by omega) (by omega) (by exact T2.roAt 3 rfl) (by exact T2.roAt 0 rfl)).mono ?_
        rintro e w23 ⟨rfl, T3, -⟩
        go_wp2_with fail
        refine (hbytes (by exact T3) 5 rfl (by omega) n hb9.2.1).mono ?_
        rintro e w24 ⟨a24, c24, rfl, T4, -⟩
        go_wp2_with fail
        refine (rdbytes_any (by exact T4.front 2 rfl) n hb9.2.2 (by omega)).mono ?_
        rintro e w25 ⟨a25, c25, rfl, T5, -⟩
        go_wp2_with fail
        refine (hcmp T5 true a24 a25 d9.bytes r9.bytes n n c24 c25 (by rw [hb9.1]; simp) hb9.2.1 (by rw [hb9.1]; exact hb9.2.1) (by unfold maxLen; omega) (by unfold maxLen; omega) (by exact T5.at 8 rfl) (by exact T5.at 0 rfl)).mono ?_
        rintro e w26 ⟨rfl, T6, -⟩
        go_wp2
        go_roundw
        case rel => exact ⟨k + 1, d9, r9, by omega, by go_num, R9.out, ((((T6.front 1 rfl).front 3 rfl).front 6 rfl).front 6 rfl).take 4⟩
        case measure => simp [intOf]; omega
      · have hql : q9.length ≤ maxLen := Nat.le_trans (T9len.out _ _ HO.out) (by unfold maxLen; omega)
        have g5 : decide ((0 : Int) ≤ (age9 : Int)) = true := decide_eq_true (by omega)
        go_wp2_with fail
        refine HL.out.mono ?_
        rintro e w21 ⟨a21, c21, rfl, l1, l2, l3, T1⟩
        have T1' : St w w21 (cellsT h 92 (rslotC pr fr sz) :: rdT pr r9 :: roT a21 (picL _) :: cellsT g 90 (slotC pd fr sz) :: diskT pd d9 :: [cellsT wr.heap.size 55 [.int .i64 x.kind, .int .i64 x.keep, .int .i64 x.age, .slice x.a x.n x.c]]) := (T1.front 4 rfl).front 4 rfl
        have hRL := rslLoad_any T1' (by rw [hb9.2.2]; exact hr) (by omega) (by rw [hb9.1, hb9.2.1, hb9.2.2])
        rw [hb9.1] at hRL
        have HRL := hid hRL
        have e0 : Hid (loadO (pic (piece d9.bytes (fr + 0 * sz) sz)) (pic (piece d9.bytes (fr + 1 * sz) sz)) = _) := HO.out
        rw [e0.out] at HRL
        have HLn := hid (And.intro l1 (And.intro l2 l3))
        clear hRL e0 T1 l1 l2 l3
        simp only [picA, Option.isSome_some, Option.isSome_none]
        go_wp2_with fail
        refine HRL.out.mono ?_
        rintro e w22 ⟨a22, c22, rfl, l1, l2, l3, T2⟩
        have HLm := hid (And.intro l1 (And.intro l2 l3))
        clear l1 l2 l3
        simp only [picI]
        go_wp2_with fail
        refine (hcmp T2 true a21 a22 q9 q9 q9.length q9.length c21 c22 (by simp) rfl rfl hql hql (by exact T2.roAt 3 rfl) (by exact T2.roAt 0 rfl)).mono ?_
        rintro e w23 ⟨rfl, T3, -⟩
        go_wp2_with fail
        refine (hbytes (by exact T3) 5 rfl (by omega) n hb9.2.1).mono ?_
        rintro e w24 ⟨a24, c24, rfl, T4, -⟩
        go_wp2_with fail
        refine (rdbytes_any (by exact T4.front 2 rfl) n hb9.2.2 (by omega)).mono ?_
        rintro e w25 ⟨a25, c25, rfl, T5, -⟩
        go_wp2_with fail
        refine (hcmp T5 true a24 a25 d9.bytes r9.bytes n n c24 c25 (by rw [hb9.1]; simp) hb9.2.1 (by rw [hb9.1]; exact hb9.2.1) (by unfold maxLen; omega) (by unfold maxLen; omega) (by exact T5.at 8 rfl) (by exact T5.at 0 rfl)).mono ?_
        rintro e w26 ⟨rfl, T6, -⟩
        go_wp2
        go_roundw
        case rel => exact ⟨k + 1, d9, r9, by omega, by go_num, R9.out, ((((T6.front 1 rfl).front 3 rfl).front 6 rfl).front 6 rfl).take 4⟩
        case measure => simp [intOf]; omega

end Go.Proofs.Ytkkailggpfmgaaa
