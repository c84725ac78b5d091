/- SlotsTorn. -/
import Derived.Test.YtkkailggpfmgaaaSlotsLaw
import Derived.Test.YtkkailggpfmgaaaSlotsActs
import Derived.Test.YtkkailggpfmgaaaSlotsMath2
namespace Go.Proofs.Ytkkailggpfmgaaa
set_option linter.unusedVariables false
set_option linter.unusedSimpArgs false
open Go.RowKit

theorem slStart_keep {d : DSt} {fr sz : Nat} {b : List UInt8} {age : Int} (h : (slStart d fr sz b age).1 ≠ 0) : (slStart d fr sz b age).2 = d := by
  unfold slStart at h ⊢
  split
  · rfl
  split
  · rfl
  split
  · rfl
  · rename_i h1 h2 h3
    rw [if_neg h1, if_neg h2, if_neg h3] at h
    exact absurd rfl h
theorem pic_len2 {l : List UInt8} {p : List UInt8 × Nat} (h : pic l = some p) : p.1.length ≤ 4000 := by
  unfold pic at h
  split at h
  · obtain ⟨q, hq, rfl⟩ := Option.map_eq_some_iff.1 h
    show ((fGet l 0).1.drop q.2).length ≤ 4000
    rw [List.length_drop]
    have : (fGet l (0 : Int)).1.length ≤ 4000 := fGet_le l 0
    omega
  · cases h
theorem picL_len {d : DSt} {fr sz : Nat} {O : Option (List UInt8 × Nat)} (h : d.shows fr sz = O) : (picL O).length ≤ 4000 := by
  rcases O with _ | p
  · exact Nat.zero_le _
  · unfold DSt.shows at h
    rw [loadO_is] at h
    show p.1.length ≤ 4000
    split at h <;> exact pic_len2 h
set_option maxRecDepth 10000 in
set_option maxHeartbeats 6400000 in
theorem slotsTorn_law (a : Option Addr) (L : List SAct) (m cap : Nat) (w : World) (hm : L.length = m) (hm1 : m ≤ maxLen) (hA : AtG eSA w a L) (hok : ∀ x ∈ L, SAct.Ok w x) :
    Calls Try.prog 7 #[.slice a m cap] w fun e w' => e = .returned (.bool true) ∧ Below w.heap.size w w' := by
  have HM := hid hm
  have HA := hid hA
  have HOk := hid hok
  have S0 := St.start w
  have hmL := hm1
  unfold maxLen at hmL
  clear hm hA hok
  by_cases hf : few6 L = true
  case neg =>
    have HF : Hid (few6 L = false) := by rw [Hid]; simpa using hf
    clear hf
    go_enter Try.func7, Try.ntmps7
    go_wp2_with fail
    refine (alive6_any _).mono ?_
    rintro e w1 ⟨rfl, hb1⟩
    have S1 := S0.grow hb1
    clear hb1
    go_wp2_with (refine (few6_any a L m cap w1 HM.out hm1 (by exact HA.out.all eSAok S1.fin)).mono ?_; rintro e w2 ⟨rfl, rfl⟩; rw [HF.out])
    all_goals (go_ret; exact ⟨rfl, S1.fin⟩)
  have HF := hid hf
  have hfw := hf
  unfold few6 at hfw
  rw [Bool.and_eq_true, decide_eq_true_iff, List.all_eq_true, HM.out] at hfw
  have HF2 := hid hfw.2
  have hm60 := hfw.1
  obtain ⟨D, hD, hDi, hDs, hDn⟩ := new_shows (N := 800) (fr := 8) (sz := 300) (by omega)
  have HD := hid hD
  have HDn := hid hDn
  clear hf hfw hD hDn
  go_enter Try.func7, Try.ntmps7
  go_wp2_with fail
  refine (alive6_any _).mono ?_
  rintro e w1 ⟨rfl, hb1⟩
  have S1 := S0.grow hb1
  clear hb1
  go_wp2_with (refine (few6_any a L m cap w1 HM.out hm1 (by exact HA.out.all eSAok S1.fin)).mono ?_; rintro e w2 ⟨rfl, rfl⟩; rw [HF.out])
  all_goals (try (go_ret; exact ⟨rfl, S1.fin⟩))
  refine (hnew S1 800 (by omega) (by omega)).mono ?_
  rintro e w2 ⟨pd, rfl, S2, -⟩
  rw [HD.out] at S2
  go_wp2_with fail
  refine (slOpen_yes (by exact S2) 8 300 (by omega) (by rw [hDi.len]; omega)).mono ?_
  rintro e w3 ⟨g0, rfl, S3⟩
  go_wp2_with fail
  go_loopw [4, 5, 6, 7, 8, 9] (fun s e la at_ th i wr => ∃ (k g : Nat) (d : DSt) (O : Option (List UInt8 × Nat)) (a1 : Option Addr) (c1 : Nat), k ≤ m ∧ s = .pointer (some ⟨g, 0, none⟩) ∧ e = .int .i64 0 ∧ la = .slice a1 (picL O).length c1 ∧ at_ = .int .i64 (picA O : Int) ∧ th = .bool O.isSome ∧ i = .int .i64 k ∧ At w a1 (picL O) ∧ SInv d 8 300 800 ∧ d.shows 8 300 = O ∧ d.syncs ≤ k ∧ St w wr [cellsT g 90 (slotC pd 8 300), diskT pd d]) (fun _ _ _ _ _ i _ => m - (intOf i).toNat)
  case atStart => exact ⟨0, g0, D, none, none, 0, Nat.zero_le _, rfl, rfl, rfl, rfl, rfl, rfl, At.nil _ _, hDi, HDn.out, by omega, S3⟩
  case round =>
    obtain ⟨k, g, d, O, a1, c1, hk, rfl, rfl, rfl, rfl, rfl, rfl, hla, hi, hO, hsy, Sk⟩ := hrel
    have HLa := hid hla
    have hol := picL_len hO
    have HO := hid hO
    clear hla hO
    by_cases hlt : k < m
    case neg =>
      go_wp2
      go_ret
      exact ⟨rfl, Sk.fin⟩
    have hkl : k < L.length := by rw [HM.out]; exact hlt
    have i0 := fun wx => idxSA a m cap (fun h => HA.out.ok (by rw [HM.out]; exact h)) k k rfl hlt wx
    have HEl : Hid (∀ w', Below w.heap.size w w' → _ ∧ _ ∧ _ ∧ _) := fun w' hb => (HA.out.all eSAok hb).cell4 hkl
    have HX := hid (HOk.out _ (List.getElem_mem hkl))
    have HX3 := HF2.out _ (List.getElem_mem hkl)
    rw [decide_eq_true_iff] at HX3
    generalize L[k] = x at *
    generalize adr a (k * 4) = A at *
    obtain ⟨y0, y1, y2, y3⟩ := HEl.out _ Sk.fin
    have S5 : St w (wr.alloc (.cells #[.int .i64 x.kind, .int .i64 x.keep, .int .i64 x.age, .slice x.a x.n x.c] 55)) [cellsT g 90 (slotC pd 8 300), diskT pd d, cellsT wr.heap.size 55 [.int .i64 x.kind, .int .i64 x.keep, .int .i64 x.age, .slice x.a x.n x.c]] := Sk.newCells _ _
    have hlen := HX.out.len
    have hP := slStart_any (by exact S5) (by rw [hi.len]; omega) (by rw [hi.waits]; simp) (by omega) x.a x.b x.n x.c hlen (by omega) HX.out.le HX.out.nil (Reads.old HX.out.isAt) x.age
    obtain ⟨r, hr⟩ : ∃ r, slStart d 8 300 x.b x.age = r := ⟨_, rfl⟩
    rw [hr] at hP
    have HP := hid hP
    clear hP
    by_cases h0 : r.1 = 0
    case neg =>
      have g1 : (r.1 != 0) = true := by simpa using h0
      have hk2 := slStart_keep (d := d) (fr := 8) (sz := 300) (b := x.b) (age := x.age) (by rw [hr]; exact h0)
      rw [hr] at hk2
      have HK2 := hid hk2
      clear h0 hr hk2
      go_wp2_with fail
      refine HP.out.mono ?_
      rintro e w6 ⟨rfl, S6⟩
      rw [HK2.out] at S6
      go_wp2
      go_roundw
      case rel => exact ⟨k + 1, g, d, O, a1, c1, by omega, rfl, rfl, rfl, rfl, rfl, by go_num, HLa.out, hi, HO.out, by omega, S6.take 2⟩
      case measure => simp [intOf]; omega
    obtain ⟨A0, hag, ht⟩ := slStart_inv (d := d) (fr := 8) (sz := 300) (b := x.b) (age := x.age) (by rw [hr]; exact h0)
    have haf := ht.after hi
    rw [← hag, hr] at haf
    obtain ⟨f1, f2, f3, f4, f5, -, -⟩ := haf
    obtain ⟨f, hf⟩ : ∃ f, (frameB (codeNum x.age ++ x.b)).length = f := ⟨_, rfl⟩
    have hfl := frameB_le20 (codeNum x.age ++ x.b)
    rw [hf] at f2 f5 hfl
    have HF2 := hid f2
    have HAf := hid f5
    have g1 : (r.1 != 0) = false := by rw [h0]; rfl
    have HT := hid ht
    have HAg := hid hag
    clear h0 hr f1 f2 f5 hf ht hag
    go_wp2_with fail
    refine HP.out.mono ?_
    rintro e w6 ⟨rfl, S6⟩
    clear HP
    go_wp2_with fail
    refine (hwaits S6 1 rfl (by omega) (f : Int) HF2.out).mono ?_
    rintro e w7 ⟨rfl, S6', -⟩
    clear S6
    have S6 := S6'
    clear S6'
    have x6a := S6.cell 2 rfl 0 rfl
    have x6b := S6.cell 2 rfl 1 rfl
    by_cases hk0 : x.kind = 0
    · have g2 : (x.kind == 0) = true := by simpa using hk0
      clear hk0
      obtain ⟨kp, hkpe⟩ : ∃ kp : Int, (f : Int) = kp := ⟨_, rfl⟩
      have hkp : (f : Int) ≤ kp := by omega
      have kp0 : -9223372036854775808 ≤ kp := by omega
      have kp1 : kp ≤ 9223372036854775807 := by omega
      as_aux_lemma =>
        go_wp2_with fail
        refine (hcrash S6 1 rfl kp kp0 kp1 (by omega)).mono ?_
        rintro e w8 ⟨rfl, S8⟩
        obtain ⟨d8, hd8⟩ : ∃ d8, r.2.crash kp = d8 := ⟨_, rfl⟩
        have hs8 : d8.syncs = r.2.syncs := by rw [← hd8]; rfl
        have S8' : St w w8 [cellsT g 90 (slotC pd 8 300), diskT pd d8, cellsT wr.heap.size 55 [.int .i64 x.kind, .int .i64 x.keep, .int .i64 x.age, .slice x.a x.n x.c]] := St.conv S8 (by rw [← hd8]; rfl)
        obtain ⟨hi8, hO8⟩ := HAf.out kp
        rw [if_pos hkp, hd8] at hO8
        rw [hd8] at hi8
        have HO8 := hid hO8
        clear hO8 S8 hd8
        have x8a := S8'.cell 2 rfl 2 rfl
        have x8b := S8'.cell 2 rfl 3 rfl
        have g7 : decide ((f : Int) ≤ kp) = true := decide_eq_true hkp
        go_wp2_with fail
        refine (slOpen_yes (by exact S8'.front 1 rfl) 8 300 (by omega) (by rw [hi8.len]; omega)).mono ?_
        rintro e w9 ⟨g9, rfl, S9⟩
        have hL := slLoad_any S9 (by rw [hi8.len]; omega) (by rw [hi8.waits]; simp)
        rw [HO8.out] at hL
        have HL := hid hL
        clear hL
        go_wp2_with fail
        refine HL.out.mono ?_
        rintro e w10 ⟨a10, c10, rfl, -, -, -, T10⟩
        simp only [picA, picL, Option.isSome_some]
        rw [hlen]
        have hT : St w w10 (roT a10 x.b :: _) := T10
        have q8 : ((A0 : Int) != x.age) = false := by rw [HAg.out]; simp
        go_wp2_with fail
        refine (hcmp hT true a10 x.a x.b x.b x.n x.n c10 x.c (by simp) hlen hlen (by unfold maxLen; omega) (by unfold maxLen; omega) (by exact hT.roAt 0 rfl) (by exact hT.old HX.out.isAt)).mono ?_
        rintro e w11 ⟨rfl, T11, -⟩
        go_wp2
        go_roundw
        case rel => exact ⟨k + 1, g9, d8, some (x.b, A0), x.a, x.c, by omega, rfl, rfl, by rw [show (picL (some (x.b, A0))).length = x.n from hlen], by rw [HAg.out]; rfl, rfl, by go_num, HX.out.isAt, hi8, HO8.out, by omega, (T11.tail : St w w11 (_ :: _ :: _)).take 2⟩
        case measure => simp [intOf]; omega
    have g2 : (x.kind == 0) = false := by simpa using hk0
    clear hk0
    obtain ⟨kp, hkpe⟩ : ∃ kp : Int, x.keep = kp := ⟨_, rfl⟩
    have kp0 : -9223372036854775808 ≤ kp := by have := HX.out.k0; omega
    have kp1 : kp ≤ 9223372036854775807 := by have := HX.out.k1; omega
    by_cases hkp : (f : Int) ≤ kp
    · skip
      as_aux_lemma =>
        go_wp2_with fail
        refine (hcrash S6 1 rfl kp kp0 kp1 (by omega)).mono ?_
        rintro e w8 ⟨rfl, S8⟩
        obtain ⟨d8, hd8⟩ : ∃ d8, r.2.crash kp = d8 := ⟨_, rfl⟩
        have hs8 : d8.syncs = r.2.syncs := by rw [← hd8]; rfl
        have S8' : St w w8 [cellsT g 90 (slotC pd 8 300), diskT pd d8, cellsT wr.heap.size 55 [.int .i64 x.kind, .int .i64 x.keep, .int .i64 x.age, .slice x.a x.n x.c]] := St.conv S8 (by rw [← hd8]; rfl)
        obtain ⟨hi8, hO8⟩ := HAf.out kp
        rw [if_pos hkp, hd8] at hO8
        rw [hd8] at hi8
        have HO8 := hid hO8
        clear hO8 S8 hd8
        have x8a := S8'.cell 2 rfl 2 rfl
        have x8b := S8'.cell 2 rfl 3 rfl
        have g7 : decide ((f : Int) ≤ kp) = true := decide_eq_true hkp
        go_wp2_with fail
        refine (slOpen_yes (by exact S8'.front 1 rfl) 8 300 (by omega) (by rw [hi8.len]; omega)).mono ?_
        rintro e w9 ⟨g9, rfl, S9⟩
        have hL := slLoad_any S9 (by rw [hi8.len]; omega) (by rw [hi8.waits]; simp)
        rw [HO8.out] at hL
        have HL := hid hL
        clear hL
        go_wp2_with fail
        refine HL.out.mono ?_
        rintro e w10 ⟨a10, c10, rfl, -, -, -, T10⟩
        simp only [picA, picL, Option.isSome_some]
        rw [hlen]
        have hT : St w w10 (roT a10 x.b :: _) := T10
        have q8 : ((A0 : Int) != x.age) = false := by rw [HAg.out]; simp
        go_wp2_with fail
        refine (hcmp hT true a10 x.a x.b x.b x.n x.n c10 x.c (by simp) hlen hlen (by unfold maxLen; omega) (by unfold maxLen; omega) (by exact hT.roAt 0 rfl) (by exact hT.old HX.out.isAt)).mono ?_
        rintro e w11 ⟨rfl, T11, -⟩
        go_wp2
        go_roundw
        case rel => exact ⟨k + 1, g9, d8, some (x.b, A0), x.a, x.c, by omega, rfl, rfl, by rw [show (picL (some (x.b, A0))).length = x.n from hlen], by rw [HAg.out]; rfl, rfl, by go_num, HX.out.isAt, hi8, HO8.out, by omega, (T11.tail : St w w11 (_ :: _ :: _)).take 2⟩
        case measure => simp [intOf]; omega
    · as_aux_lemma =>
        go_wp2_with fail
        refine (hcrash S6 1 rfl kp kp0 kp1 (by omega)).mono ?_
        rintro e w8 ⟨rfl, S8⟩
        obtain ⟨d8, hd8⟩ : ∃ d8, r.2.crash kp = d8 := ⟨_, rfl⟩
        have hs8 : d8.syncs = r.2.syncs := by rw [← hd8]; rfl
        have S8' : St w w8 [cellsT g 90 (slotC pd 8 300), diskT pd d8, cellsT wr.heap.size 55 [.int .i64 x.kind, .int .i64 x.keep, .int .i64 x.age, .slice x.a x.n x.c]] := St.conv S8 (by rw [← hd8]; rfl)
        obtain ⟨hi8, hO8⟩ := HAf.out kp
        rw [if_neg (show ¬ (f : Int) ≤ kp by omega), hd8, HO.out] at hO8
        rw [hd8] at hi8
        have HO8 := hid hO8
        clear hO8 S8 hd8
        have g7 : decide ((f : Int) ≤ kp) = false := decide_eq_false (by omega)
        go_wp2_with fail
        refine (slOpen_yes (by exact S8'.front 1 rfl) 8 300 (by omega) (by rw [hi8.len]; omega)).mono ?_
        rintro e w9 ⟨g9, rfl, S9⟩
        have hL := slLoad_any S9 (by rw [hi8.len]; omega) (by rw [hi8.waits]; simp)
        rw [HO8.out] at hL
        have HL := hid hL
        clear hL
        go_wp2_with fail
        refine HL.out.mono ?_
        rintro e w10 ⟨a10, c10, rfl, -, -, -, T10⟩
        go_wp2_with fail
        refine (hcmp T10 true a10 a1 (picL O) (picL O) _ _ c10 c1 (by simp) rfl rfl (by unfold maxLen; omega) (by unfold maxLen; omega) (by exact T10.roAt 0 rfl) (by exact T10.old HLa.out)).mono ?_
        rintro e w11 ⟨rfl, T11, -⟩
        go_wp2
        go_roundw
        case rel => exact ⟨k + 1, g9, d8, O, a1, c1, by omega, rfl, rfl, rfl, rfl, rfl, by go_num, HLa.out, hi8, HO8.out, by omega, (T11.tail : St w w11 (_ :: _ :: _)).take 2⟩
        case measure => simp [intOf]; omega

end Go.Proofs.Ytkkailggpfmgaaa
