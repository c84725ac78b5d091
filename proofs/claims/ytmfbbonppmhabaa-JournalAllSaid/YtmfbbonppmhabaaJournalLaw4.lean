/- JournalAll. -/
import Derived.Test.YtmfbbonppmhabaaJournalLaw3
import Derived.Test.YtmfbbonppmhabaaJournalActs
namespace Go.Proofs.Ytmfbbonppmhabaa
set_option linter.unusedVariables false
set_option linter.unusedSimpArgs false
open Go.RowKit
structure AllS (w : World) (k used : Nat) (d : DSt) (o : Option (List UInt8 × Nat)) (ws : List BS) (pa : Option Addr) : Prop where
  inv : JInv 4000 1000 2000 d used o (ws.map BS.l) (2 * k + 1)
  few : picA o + ws.length ≤ k
  use : used ≤ 47 * k
  old : ∀ x ∈ ws, BS.Hd x ∧ At w x.a x.l
  pic : At w pa (picL o)
  pl : (picL o).length ≤ 100
theorem snoc_old {w : World} {ws : List BS} (h : ∀ x ∈ ws, BS.Hd x ∧ At w x.a x.l) {y : BS} (hy : BS.Hd y ∧ At w y.a y.l) : ∀ x ∈ ws ++ [y], BS.Hd x ∧ At w x.a x.l := by
  intro x hx
  rcases List.mem_append.1 hx with hx | hx
  · exact h x hx
  · simp only [List.mem_singleton] at hx; subst hx; exact hy
set_option maxRecDepth 100000 in
set_option maxHeartbeats 12800000 in
theorem journalAll_law (a : Option Addr) (L : List JAct) (m cap : Nat) (w : World) (hm : L.length = m) (hm1 : m ≤ maxLen) (hA : AtG eJA w a L) (hok : ∀ x ∈ L, JAct.Ok w x) :
    Calls Try.prog 5 #[.slice a m cap] w fun e w' => e = .returned (.bool true) ∧ Below w.heap.size w w' := by
  have HM := hid hm
  have HA := hid hA
  have HOk := hid hok
  have S0 := St.start w
  have hmL := hm1
  unfold maxLen at hmL
  have G : JGeo 4000 1000 2000 := ⟨by omega, by omega, by omega, by omega⟩
  have HJ := hid (jNew G)
  clear hm hA hok
  by_cases hf : few7 L = true
  case neg =>
    have HF : Hid (few7 L = false) := by rw [Hid]; simpa using hf
    clear hf
    go_enter Try.func5, Try.ntmps5
    go_wp2_with fail
    refine (alive7_any _).mono ?_
    rintro e w1 ⟨rfl, hb1⟩
    have S1 := S0.grow hb1
    clear hb1
    go_wp2_with fail
    refine (few7_any a L m cap w1 HM.out hm1 (by exact HA.out.all eJAok S1.fin)).mono ?_
    rintro e w2 ⟨rfl, rfl⟩
    rw [HF.out]
    go_wp2
    go_ret
    exact ⟨rfl, S1.fin⟩
  have HF := hid hf
  have hfw := hf
  unfold few7 at hfw
  rw [Bool.and_eq_true, decide_eq_true_iff, List.all_eq_true, HM.out] at hfw
  have hm60 := hfw.1
  clear hf hfw
  go_enter Try.func5, Try.ntmps5
  go_wp2_with fail
  refine (alive7_any _).mono ?_
  rintro e w1 ⟨rfl, hb1⟩
  have S1 := S0.grow hb1
  clear hb1
  go_wp2_with fail
  refine (few7_any a L m cap w1 HM.out hm1 (by exact HA.out.all eJAok S1.fin)).mono ?_
  rintro e w2 ⟨rfl, rfl⟩
  rw [HF.out]
  go_wp2_with fail
  refine (hnew S1 4000 (by omega) (by omega)).mono ?_
  rintro e w2 ⟨pd, rfl, S2, -⟩
  obtain ⟨D, hD, d1, d2, d3, d4, d5, d6, H1⟩ := HJ.out
  rw [hD] at S2
  clear hD HJ S1 HF
  have S2' : St w w2 [diskT pd D] := S2
  go_wp2_with fail
  refine (jOpenI S2' G (by decide) d2 (by omega) (by rw [d1]; simp) (by rw [d3]; omega) d4 d5 d6).mono ?_
  rintro e w3 ⟨gj, gl, gs, a2, b2, c2, m2, kk2, xs2, rfl, -, -, -, -, -, -, S3'⟩
  have S3 : St w w3 (jL gj gl gs pd 1000 2000 0 (jDisk D 1000 2000) none [] [ownT eS (.slice none 0 0) []]) := (S3'.take 4).nilG eS
  clear S2 S2' S3' S0 d1 d2 d3 d4 d5 d6
  have HH := hid H1
  clear H1
  go_wp2_with fail
  go_loopw [4, 8, 9, 10, 11, 12, 13, 14, 15, 16] (fun z4 z8 z9 z10 z11 z12 z13 z14 z15 z16 wr => ∃ (k used gj gl gs : Nat) (d : DSt) (o : Option (List UInt8 × Nat)) (ws : List BS) (aw : Option Addr) (cw : Nat) (pa : Option Addr) (pc : Nat) (x12 x13 x14 x15 x16 : Value), k ≤ m ∧ z4 = .pointer (some ⟨gj, 0, none⟩) ∧ z8 = .slice aw ws.length cw ∧ z9 = .slice pa (picL o).length pc ∧ z10 = .int .i64 (jCnt o (ws.map BS.l)) ∧ z11 = .int .i64 k ∧ z12 = x12 ∧ z13 = x13 ∧ z14 = x14 ∧ z15 = x15 ∧ z16 = x16 ∧ AllS w k used d o ws pa ∧ St w wr (jL gj gl gs pd 1000 2000 used d o (ws.map BS.l) [ownT eS (.slice aw ws.length cw) ws])) (fun _ _ _ _ i _ _ _ _ _ _ => m - (intOf i).toNat)
  case atStart => exact ⟨0, 0, gj, gl, gs, _, none, [], none, 0, none, 0, _, _, _, _, _, Nat.zero_le _, rfl, rfl, rfl, rfl, rfl, rfl, rfl, rfl, rfl, rfl, ⟨HH.out, by simp [picA], by omega, by simp, At.nil _ _, by simp [picL]⟩, S3⟩
  case round =>
    obtain ⟨k, used, gj, gl, gs, d, o, ws, aw, cw, pa, pc, x12, x13, x14, x15, x16, hk, rfl, rfl, rfl, rfl, rfl, rfl, rfl, rfl, rfl, rfl, hall, Sk⟩ := hrel
    have HAll := hid hall
    clear hall S3
    by_cases hlt : k < m
    case neg =>
      have g0 : decide ((k : Int) < (m : Int)) = false := decide_eq_false (by omega)
      have g0n : decide (k < m) = false := decide_eq_false (by omega)
      go_wp2
      go_ret
      exact ⟨rfl, Sk.fin⟩
    have g0 : decide ((k : Int) < (m : Int)) = true := decide_eq_true (by omega)
    have g0n : decide (k < m) = true := decide_eq_true (by omega)
    have hkl : k < L.length := by rw [HM.out]; exact hlt
    have i0 := fun wx => idxJA a m cap (fun h => HA.out.ok (by rw [HM.out]; exact h)) k k rfl hlt wx
    have HEl : Hid (∀ w', Below w.heap.size w w' → _ ∧ _ ∧ _) := fun w' hb => (HA.out.all eJAok hb).cellJA hkl
    have HX := hid (HOk.out _ (List.getElem_mem hkl))
    generalize L[k] = x at *
    generalize adr a (k * 3) = A at *
    obtain ⟨y0, y1, y2⟩ := HEl.out _ Sk.fin
    have hfew := HAll.out.few
    have huse := HAll.out.use
    by_cases h0 : x.n = 0
    · have g1 : ((x.n : Int) == 0) = true := by rw [h0]; rfl
      go_wp2
      go_roundw
      case rel => exact ⟨k + 1, used, gj, gl, gs, d, o, ws, aw, cw, pa, pc, _, _, _, _, _, by omega, rfl, rfl, rfl, rfl, by go_num, rfl, rfl, rfl, rfl, rfl, ⟨HAll.out.inv.mono (by omega), by omega, by omega, HAll.out.old, HAll.out.pic, HAll.out.pl⟩, Sk.alloc _⟩
      case measure => simp [intOf]; omega
    have g1 : ((x.n : Int) == 0) = false := by simpa using h0
    by_cases h40 : 40 < x.n
    · have g2 : decide ((40 : Int) < (x.n : Int)) = true := decide_eq_true (by omega)
      have g2n : decide (40 < x.n) = true := decide_eq_true (by omega)
      go_wp2
      go_roundw
      case rel => exact ⟨k + 1, used, gj, gl, gs, d, o, ws, aw, cw, pa, pc, _, _, _, _, _, by omega, rfl, rfl, rfl, rfl, by go_num, rfl, rfl, rfl, rfl, rfl, ⟨HAll.out.inv.mono (by omega), by omega, by omega, HAll.out.old, HAll.out.pic, HAll.out.pl⟩, Sk.alloc _⟩
      case measure => simp [intOf]; omega
    have g2 : decide ((40 : Int) < (x.n : Int)) = false := decide_eq_false (by omega)
    have g2n : decide (40 < x.n) = false := decide_eq_false (by omega)
    have HXl := hid HX.out.len
    have hx40 : 1 ≤ x.n ∧ x.n ≤ 40 := by omega
    have hmx : x.n ≤ maxLen := Nat.le_trans HX.out.le HX.out.big
    have HSf : Hid ((frameB (codeNum (jCnt o (ws.map BS.l)) ++ x.b)).length = x.n + 7) := by
      have := small_frame (c := picA o + (ws.map BS.l).length) (l := x.b) (by rw [List.length_map]; omega) (by rw [HXl.out]; omega)
      rw [HXl.out] at this
      exact this
    have HRm : Hid (jRoom 2000 used (jCnt o (ws.map BS.l)) (x.b.length : Int) = true) := by
      rw [Hid, jRoom_is (by rw [HXl.out]; omega) (by rw [HXl.out]; omega), HSf.out]
      exact decide_eq_true (by omega)
    clear h0 h40
    have S5 : St w (wr.alloc (.cells #[.int .i64 x.kind, .int .i64 x.keep, .slice x.a x.n x.c] 43)) (jL gj gl gs pd 1000 2000 used d o (ws.map BS.l) [ownT eS (.slice aw ws.length cw) ws, cellsT wr.heap.size 43 [.int .i64 x.kind, .int .i64 x.keep, .slice x.a x.n x.c]]) := Sk.newCells _ _
    by_cases hk0 : x.kind = 0
    · have g3 : (x.kind == 0) = true := by simpa using hk0
      clear hk0
      obtain ⟨dX, u2, hu2, H2, C2⟩ := jAppI S5 HAll.out.inv G (by omega) x.a x.b x.n x.c HXl.out hmx HX.out.le HX.out.nil (Reads.old HX.out.isAt) HRm.out
      have HH2 := hid H2
      have HC2 := hid C2
      have use2 : u2 ≤ 47 * (k + 1) := by rw [hu2, HSf.out]; omega
      have hst := hid (cnt_step o (ws.map BS.l) x.b)
      clear H2 C2 hu2
      go_wp2_with fail
      refine HC2.out.mono ?_
      rintro e w6 ⟨rfl, S6⟩
      clear HC2 S5
      have x6 := S6.cell 5 rfl 2 rfl
      have hcb : 0 ≤ jCnt o (ws.map BS.l) ∧ jCnt o (ws.map BS.l) ≤ 60 := by unfold jCnt; rw [List.length_map]; omega
      obtain ⟨hcb0, hcb1⟩ := hcb
      go_wp2_with (at_builtin; refine wpList_app (by rfl) (.tmp 82) (.tmp 85) 22 22 22 rfl rfl _ _ rfl rfl (S6.appG1 eSok _ rfl 4 rfl x.bs #[.slice x.a x.n x.c] rfl (ws.length + 1) rfl (by show _ * 24 ≤ _; omega) (by unfold maxLen; omega)) ?_; rintro v7 w7 ⟨⟨aw2, cw2, rfl⟩, S7⟩)
      have few2 : picA o + (ws ++ [x.bs]).length ≤ k + 1 := by rw [List.length_append, List.length_singleton]; omega
      have HL2 : Hid (ws.length + 1 = (ws ++ [x.bs]).length) := by rw [Hid, List.length_append, List.length_singleton]
      have HW2 := hid (snoc_old HAll.out.old HX.out.hd)
      have HM2 : Hid (ws.map BS.l ++ [x.b] = (ws ++ [x.bs]).map BS.l) := by rw [Hid, List.map_append]; rfl
      have HCn : Hid (jCnt o (ws.map BS.l) + 1 = jCnt o ((ws ++ [x.bs]).map BS.l)) := by rw [Hid, hst.out, HM2.out]
      have HJ2 := HH2
      rw [HM2.out] at HJ2
      have SX : St w w7 [diskT pd dX, ownT eS (.slice aw2 (ws ++ [x.bs]).length cw2) (ws ++ [x.bs])] := by
        have S8 := ((S7.front 4 rfl).front 3 rfl).take 2
        rw [HL2.out] at S8
        exact S8
      rw [HL2.out, HCn.out]
      generalize ws ++ [x.bs] = ws2 at *
      clear HL2 HM2 HCn HH2 hst S6 S7 hcb0 hcb1
      have PIC := hid HAll.out.pic
      have pl2 := HAll.out.pl
      obtain ⟨o1, o2', o3, o4⟩ := HJ2.out.open_ G (by omega)
      have OP := hid o1
      have OO := hid o2'
      have OU := hid o3
      have OI : Hid (JInv 4000 1000 2000 (jDisk dX 1000 2000) u2 o (ws2.map BS.l) (2 * (k + 1) + 1)) := o4
      have OL := hid HJ2.out.len
      have OW := hid HJ2.out.waits
      have OY : Hid (dX.syncs < 1000000) := by have := HJ2.out.syncs; rw [Hid]; omega
      clear o1 o2' o3 o4 HJ2
      go_wp2_with fail
      refine (jOpenI SX G (by decide) OL.out (by omega) (by rw [OW.out]; simp) OY.out OP.out OO.out OU.out).mono ?_
      rintro e w9 ⟨gj2, gl2, gs2, a9, c9, b9, m9, kk9, zs, rfl, hp1, hp2, hp3, hzs, hm9, hhd9, S9⟩
      have hro : At w9 a9 (picL o) := Reads.ro 4 rfl w9 [] S9
      have hm92 : m9 = ws2.length := by rw [← hm9]; have := congrArg List.length hzs; simpa using this
      clear hm9
      subst hm92
      have HZS := hid hzs
      have HHD9 := hid hhd9
      have HRO := hid hro
      clear SX hp1 hp2 hp3 hzs hhd9 hro
      go_wp2_with fail
      refine (bytes_any a9 pa (picL o) (picL o) _ _ c9 pc _ rfl rfl (by unfold maxLen; omega) (by unfold maxLen; omega) HRO.out (S9.old PIC.out)).mono ?_
      rintro e wb ⟨rfl, nz, rfl⟩
      rw [show (picL o == picL o) = true by simp]
      have S10 := S9.drewN nz
      clear S9 HRO
      go_wp2_with fail
      refine (same_rows S10 (k := 5) (j := 6) rfl HHD9.out rfl HW2.out (by omega) (by omega)).mono ?_
      rintro e wc ⟨rfl, S11⟩
      rw [show (zs.map BS.l == ws2.map BS.l) = true by rw [HZS.out]; simp]
      clear S10
      go_wp2_with fail
      refine (jlCount S11).mono ?_
      rintro e wd ⟨rfl, rfl⟩
      have qq : (jCnt o (ws2.map BS.l) != jCnt o (ws2.map BS.l)) = false := by simp
      have S12 : St w wc (jL gj2 gl2 gs2 pd 1000 2000 u2 (jDisk dX 1000 2000) o (ws2.map BS.l) [ownT eS (.slice aw2 ws2.length cw2) ws2]) := ((S11.front 6 rfl).take 5).unrot
      go_wp2
      go_roundw
      case rel => exact ⟨k + 1, u2, gj2, gl2, gs2, _, o, ws2, aw2, cw2, pa, pc, _, _, _, _, _, by omega, rfl, rfl, rfl, rfl, by go_num, rfl, rfl, rfl, rfl, rfl, ⟨OI.out, few2, use2, HW2.out, PIC.out, pl2⟩, S12⟩
      case measure => simp [intOf]; omega
    have g3 : (x.kind == 0) = false := by simpa using hk0
    clear hk0
    by_cases hk1 : x.kind = 1
    · have g4 : (x.kind == 1) = true := by simpa using hk1
      clear hk1
      have hcC := jCompI S5 HAll.out.inv G (by omega) x.a x.b x.n x.c HXl.out (by omega) HX.out.le HX.out.nil (Reads.old HX.out.isAt)
      rcases hcC with ⟨-, -, dX, HI2, C2⟩ | ⟨hno, C2⟩
      · have HH2 := hid HI2
        have HC2 := hid C2
        clear HI2 C2
        go_wp2_with fail
        refine HC2.out.mono ?_
        rintro e w6 ⟨rfl, S6⟩
        clear HC2 S5
        have x6 := S6.cell 5 rfl 2 rfl
        obtain ⟨ws2, aw2, cw2, pa, pc, o, u2, Z8, Z9, Z10, SX, few2, use2, HW2, PIC, pl2, HJ2⟩ : ∃ (ws2 : List BS) (aw2 : Option Addr) (cw2 : Nat) (pa' : Option Addr) (pc' : Nat) (o' : Option (List UInt8 × Nat)) (u2 : Nat), Hid (Value.slice none 0 0 = .slice aw2 ws2.length cw2) ∧ Hid (Value.slice x.a x.n x.c = .slice pa' (picL o').length pc') ∧ Hid (jCnt o (ws.map BS.l) = jCnt o' (ws2.map BS.l)) ∧ St w w6 [diskT pd dX, ownT eS (.slice aw2 ws2.length cw2) ws2] ∧ picA o' + ws2.length ≤ k + 1 ∧ u2 ≤ 47 * (k + 1) ∧ Hid (∀ x ∈ ws2, BS.Hd x ∧ At w x.a x.l) ∧ Hid (At w pa' (picL o')) ∧ (picL o').length ≤ 100 ∧ Hid (JInv 4000 1000 2000 dX u2 o' (ws2.map BS.l) (2 * k + 1 + 1)) := by
          refine ⟨[], none, 0, x.a, x.c, some (x.b, picA o + (ws.map BS.l).length), 0, rfl, ?_, rfl, ((S6.front 2 rfl).take 1).nilG eS, ?_, by omega, ?_, HX.out.isAt, ?_, HH2.out⟩
          · show Value.slice x.a x.n x.c = Value.slice x.a x.b.length x.c
            rw [HXl.out]
          · show picA o + (ws.map BS.l).length + 0 ≤ _
            rw [List.length_map]; omega
          · intro x hx; cases hx
          · show x.b.length ≤ 100
            rw [HXl.out]; omega
        go_wp2_with fail
        rw [Z8.out, Z9.out, Z10.out]
        clear Z8 Z9 Z10 HH2 S6 HX HXl HSf HRm x6
        obtain ⟨o1, o2', o3, o4⟩ := HJ2.out.open_ G (by omega)
        have OP := hid o1
        have OO := hid o2'
        have OU := hid o3
        have OI : Hid (JInv 4000 1000 2000 (jDisk dX 1000 2000) u2 o (ws2.map BS.l) (2 * (k + 1) + 1)) := hid (o4.mono (by omega))
        have OL := hid HJ2.out.len
        have OW := hid HJ2.out.waits
        have OY : Hid (dX.syncs < 1000000) := by have := HJ2.out.syncs; rw [Hid]; omega
        clear o1 o2' o3 o4 HJ2
        go_wp2_with fail
        refine (jOpenI SX G (by decide) OL.out (by omega) (by rw [OW.out]; simp) OY.out OP.out OO.out OU.out).mono ?_
        rintro e w9 ⟨gj2, gl2, gs2, a9, c9, b9, m9, kk9, zs, rfl, hp1, hp2, hp3, hzs, hm9, hhd9, S9⟩
        have hro : At w9 a9 (picL o) := Reads.ro 4 rfl w9 [] S9
        have hm92 : m9 = ws2.length := by rw [← hm9]; have := congrArg List.length hzs; simpa using this
        clear hm9
        subst hm92
        have HZS := hid hzs
        have HHD9 := hid hhd9
        have HRO := hid hro
        clear SX hp1 hp2 hp3 hzs hhd9 hro
        go_wp2_with fail
        refine (bytes_any a9 pa (picL o) (picL o) _ _ c9 pc _ rfl rfl (by unfold maxLen; omega) (by unfold maxLen; omega) HRO.out (S9.old PIC.out)).mono ?_
        rintro e wb ⟨rfl, nz, rfl⟩
        rw [show (picL o == picL o) = true by simp]
        have S10 := S9.drewN nz
        clear S9 HRO
        go_wp2_with fail
        refine (same_rows S10 (k := 5) (j := 6) rfl HHD9.out rfl HW2.out (by omega) (by omega)).mono ?_
        rintro e wc ⟨rfl, S11⟩
        rw [show (zs.map BS.l == ws2.map BS.l) = true by rw [HZS.out]; simp]
        clear S10
        go_wp2_with fail
        refine (jlCount S11).mono ?_
        rintro e wd ⟨rfl, rfl⟩
        have qq : (jCnt o (ws2.map BS.l) != jCnt o (ws2.map BS.l)) = false := by simp
        have S12 : St w wc (jL gj2 gl2 gs2 pd 1000 2000 u2 (jDisk dX 1000 2000) o (ws2.map BS.l) [ownT eS (.slice aw2 ws2.length cw2) ws2]) := ((S11.front 6 rfl).take 5).unrot
        go_wp2
        go_roundw
        case rel => exact ⟨k + 1, u2, gj2, gl2, gs2, _, o, ws2, aw2, cw2, pa, pc, _, _, _, _, _, by omega, rfl, rfl, rfl, rfl, by go_num, rfl, rfl, rfl, rfl, rfl, ⟨OI.out, few2, use2, HW2.out, PIC.out, pl2⟩, S12⟩
        case measure => simp [intOf]; omega
      have HH2 := hid HAll.out.inv
      have hw0 : ws = [] := by
        by_cases hw : ws = []
        · exact hw
        · exfalso
          have t := takes_new HAll.out.inv (.inl (by simpa using hw)) (p := x.b) (by rw [List.length_map]; omega) (by rw [HXl.out]; omega) (by rw [HXl.out]; omega)
          rcases hno with h | h
          · exact t.2 h
          · exact h t.1
      have g5 : decide ((0 : Int) < (ws.length : Int)) = false := by rw [hw0]; rfl
      have g5n : decide (0 < ws.length) = false := by rw [hw0]; rfl
      have HC2 := hid C2
      clear hno C2 hw0
      go_wp2_with fail
      refine HC2.out.mono ?_
      rintro e w6 ⟨rfl, S6⟩
      clear HC2 S5
      obtain ⟨ws2, aw2, cw2, u2, dX, Z8, Z10, SX, few2, use2, HW2, HJ2⟩ : ∃ (ws2 : List BS) (aw2 : Option Addr) (cw2 u2 : Nat) (dX : DSt), Hid (Value.slice aw ws.length cw = .slice aw2 ws2.length cw2) ∧ Hid (jCnt o (ws.map BS.l) = jCnt o (ws2.map BS.l)) ∧ St w w6 [diskT pd dX, ownT eS (.slice aw2 ws2.length cw2) ws2] ∧ picA o + ws2.length ≤ k + 1 ∧ u2 ≤ 47 * (k + 1) ∧ Hid (∀ x ∈ ws2, BS.Hd x ∧ At w x.a x.l) ∧ Hid (JInv 4000 1000 2000 dX u2 o (ws2.map BS.l) (2 * k + 1)) := ⟨ws, aw, cw, used, d, rfl, rfl, ((S6.front 4 rfl).front 3 rfl).take 2, by omega, by omega, HAll.out.old, HH2.out⟩
      have PIC := hid HAll.out.pic
      have pl2 := HAll.out.pl
      go_wp2_with fail
      rw [Z8.out, Z10.out]
      clear Z8 Z10 HH2 S6 HX HXl HSf HRm
      obtain ⟨o1, o2', o3, o4⟩ := HJ2.out.open_ G (by omega)
      have OP := hid o1
      have OO := hid o2'
      have OU := hid o3
      have OI : Hid (JInv 4000 1000 2000 (jDisk dX 1000 2000) u2 o (ws2.map BS.l) (2 * (k + 1) + 1)) := hid (o4.mono (by omega))
      have OL := hid HJ2.out.len
      have OW := hid HJ2.out.waits
      have OY : Hid (dX.syncs < 1000000) := by have := HJ2.out.syncs; rw [Hid]; omega
      clear o1 o2' o3 o4 HJ2
      go_wp2_with fail
      refine (jOpenI SX G (by decide) OL.out (by omega) (by rw [OW.out]; simp) OY.out OP.out OO.out OU.out).mono ?_
      rintro e w9 ⟨gj2, gl2, gs2, a9, c9, b9, m9, kk9, zs, rfl, hp1, hp2, hp3, hzs, hm9, hhd9, S9⟩
      have hro : At w9 a9 (picL o) := Reads.ro 4 rfl w9 [] S9
      have hm92 : m9 = ws2.length := by rw [← hm9]; have := congrArg List.length hzs; simpa using this
      clear hm9
      subst hm92
      have HZS := hid hzs
      have HHD9 := hid hhd9
      have HRO := hid hro
      clear SX hp1 hp2 hp3 hzs hhd9 hro
      go_wp2_with fail
      refine (bytes_any a9 pa (picL o) (picL o) _ _ c9 pc _ rfl rfl (by unfold maxLen; omega) (by unfold maxLen; omega) HRO.out (S9.old PIC.out)).mono ?_
      rintro e wb ⟨rfl, nz, rfl⟩
      rw [show (picL o == picL o) = true by simp]
      have S10 := S9.drewN nz
      clear S9 HRO
      go_wp2_with fail
      refine (same_rows S10 (k := 5) (j := 6) rfl HHD9.out rfl HW2.out (by omega) (by omega)).mono ?_
      rintro e wc ⟨rfl, S11⟩
      rw [show (zs.map BS.l == ws2.map BS.l) = true by rw [HZS.out]; simp]
      clear S10
      go_wp2_with fail
      refine (jlCount S11).mono ?_
      rintro e wd ⟨rfl, rfl⟩
      have qq : (jCnt o (ws2.map BS.l) != jCnt o (ws2.map BS.l)) = false := by simp
      have S12 : St w wc (jL gj2 gl2 gs2 pd 1000 2000 u2 (jDisk dX 1000 2000) o (ws2.map BS.l) [ownT eS (.slice aw2 ws2.length cw2) ws2]) := ((S11.front 6 rfl).take 5).unrot
      go_wp2
      go_roundw
      case rel => exact ⟨k + 1, u2, gj2, gl2, gs2, _, o, ws2, aw2, cw2, pa, pc, _, _, _, _, _, by omega, rfl, rfl, rfl, rfl, by go_num, rfl, rfl, rfl, rfl, rfl, ⟨OI.out, few2, use2, HW2.out, PIC.out, pl2⟩, S12⟩
      case measure => simp [intOf]; omega
    have g4 : (x.kind == 1) = false := by simpa using hk1
    clear hk1
    obtain ⟨t0, t1, t2, u2, ops', he, hu2, p1, p2, p3, p4, p5, p6, H3⟩ := HAll.out.inv.torn G HRm.out x.keep (by omega)
    have hy := HAll.out.inv.syncs
    have HS := hid (jlStart S5 x.a x.b x.n x.c HXl.out hmx HX.out.le HX.out.nil (Reads.old HX.out.isAt) ⟨by unfold jCnt; omega, by unfold jCnt; rw [List.length_map]; omega⟩ (by rw [HAll.out.inv.len]; omega) HAll.out.inv.log.le (by rw [HAll.out.inv.waits]; simp))
    rw [HSf.out] at t1 he hu2
    generalize (jStart d (2 * 1000) 2000 used (jCnt o (ws.map BS.l)) x.b) = R at *
    obtain ⟨r1, r2, r3, r4⟩ := R
    simp only at t0 t1 t2 p1 p2 p3 p4 p5 p6 H3 HS
    subst t0
    obtain ⟨f, hf⟩ : ∃ f : Int, ((x.n + 7 : Nat) : Int) = f := ⟨_, rfl⟩
    rw [hf] at t1 he
    have use2 : u2 ≤ 47 * (k + 1) := by omega
    have T1 := hid t1
    have HE := hid he
    have P1 := hid p1
    have P2 := hid p2
    have P3 := hid p3
    have P4 := hid p4
    have P5 := hid p5
    have P6 := hid p6
    have HH3 := hid H3
    clear t1 he p1 p2 p3 p4 p5 p6 H3 hf hu2 HSf HRm
    go_wp2_with fail
    refine HS.out.mono ?_
    rintro e w6 ⟨rfl, S6⟩
    clear HS
    have S7 : St w w6 [diskT pd r2, ownT eS (.slice aw ws.length cw) ws, cellsT wr.heap.size 43 [.int .i64 x.kind, .int .i64 x.keep, .slice x.a x.n x.c]] := (((S6.front 5 rfl).front 5 rfl).front 4 rfl).take 3
    clear S6 S5
    go_wp2_with fail
    refine wp_region_held_drew (S := (fun w' => w'.cell? ⟨wr.heap.size, 1, none⟩ = some (.int .i64 x.keep))) (by kernel_rfl) (by exact S7.drew.cell 2 rfl 1 rfl) (fun hHeld => ?_)
    change wpAnyH _ _ _ _ _ 5 (Array.replicate 5 false) _ _
    refine wpAnyH_take (i := 0) (v := ?v1) (ops_at rfl) (by kernel_rfl) (by kernel_rfl) (by kernel_rfl) (fun _ _ _ h => h) (Or.inl ⟨by rfl, ?hy1⟩) (by assumption) ?rest1
    case hy1 => intro w' hSw; (try dsimp only at hSw); go_simp; try with_reducible rfl
    try simp only [Act.put, List.setIfInBounds_toArray, List.set_cons_zero, List.set_cons_succ]
    refine wpAnyH_take (i := 1) (v := ?v2) (ops_at rfl) (by kernel_rfl) (by kernel_rfl) (by kernel_rfl) (fun _ _ _ h => h) (Or.inl ⟨by rfl, ?hy2⟩) (by assumption) ?rest2
    case hy2 => intro w' hSw; (try dsimp only at hSw); go_simp; try with_reducible rfl
    try simp only [Act.put, List.setIfInBounds_toArray, List.set_cons_zero, List.set_cons_succ]
    refine wpAnyH_take (i := 2) (v := ?v3) (ops_at rfl) (by kernel_rfl) (by kernel_rfl) (by kernel_rfl) (fun _ _ _ h => h) (Or.inl ⟨by rfl, ?hy3⟩) (by assumption) ?rest3
    case hy3 => intro w' hSw; (try dsimp only at hSw); go_simp; try with_reducible rfl
    try simp only [Act.put, List.setIfInBounds_toArray, List.set_cons_zero, List.set_cons_succ]
    refine wpAnyH_ready (rs := [3]) (by kernel_rfl) (by simp) ?_
    refine AllReadyH.cons (ops_at rfl) (fun K hK => ?_) AllReadyH.nil
    go_simp
    refine (hwaits S7.drew 0 rfl (by omega) f T1.out).mono ?_
    rintro e w7 ⟨rfl, S8, -⟩
    refine hK.out _ _ (by exact S8.cell 2 rfl 1 rfl) (fun hHeld => ?_)
    clear hK K
    try simp only [Act.put, List.setIfInBounds_toArray, List.set_cons_zero, List.set_cons_succ]
    refine wpAnyH_take (i := 4) (v := ?v5) (ops_at rfl) (by kernel_rfl) (by kernel_rfl) (by kernel_rfl) (fun _ _ _ h => h) (Or.inl ⟨by rfl, ?hy5⟩) (by assumption) ?rest5
    case hy5 => intro w' hSw; (try dsimp only at hSw); go_simp; try with_reducible rfl
    try simp only [Act.put, List.setIfInBounds_toArray, List.set_cons_zero, List.set_cons_succ]
    refine wpAnyH_done (by kernel_rfl) ?_ _
    have x6a := S8.cell 2 rfl 1 rfl
    have x6b := S8.cell 2 rfl 2 rfl
    have hcb : 0 ≤ jCnt o (ws.map BS.l) ∧ jCnt o (ws.map BS.l) ≤ 60 := by unfold jCnt; rw [List.length_map]; omega
    generalize hpb : decide (f ≤ x.keep) = pb
    cases pb
    case true =>
      have hkp : f ≤ x.keep := of_decide_eq_true hpb
      have HE2 := HE.out
      rw [if_pos hkp] at HE2
      have HOps : Hid (ops' = (ws ++ [x.bs]).map BS.l) := by rw [Hid, HE2, List.map_append]; rfl
      clear hpb HE HE2 hkp
      obtain ⟨hcb0, hcb1⟩ := hcb
      go_wp2_with (at_builtin; refine wpList_app (by rfl) (.tmp 64) (.tmp 67) 22 22 22 rfl rfl _ _ rfl rfl (S8.appG1 eSok _ rfl 1 rfl x.bs #[.slice x.a x.n x.c] rfl (ws.length + 1) rfl (by show _ * 24 ≤ _; omega) (by unfold maxLen; omega)) ?_; rintro v8 w8 ⟨⟨aw2, cw2, rfl⟩, S9⟩; have x8a := S9.cell 2 rfl 1 rfl)
      refine (hcrash S9 0 rfl x.keep HX.out.k0 HX.out.k1 (by omega)).mono ?_
      rintro e w9 ⟨rfl, S10⟩
      obtain ⟨ws2, dX, hws2, hdX⟩ : ∃ (ws2 : List BS) (dX : DSt), ws2 = ws ++ [x.bs] ∧ dX = r2.crash x.keep := ⟨_, _, rfl, rfl⟩
      have SX : St w w9 [diskT pd dX, ownT eS (.slice aw2 ws2.length cw2) ws2] := by
        have S11 := S10.take 2
        rw [hws2, hdX, List.length_append, List.length_singleton]
        exact S11
      have few2 : picA o + ws2.length ≤ k + 1 := by rw [hws2, List.length_append, List.length_singleton]; omega
      have HW2 : Hid (∀ x ∈ ws2, BS.Hd x ∧ At w x.a x.l) := by rw [hws2]; exact snoc_old HAll.out.old HX.out.hd
      have Z8 : Hid (ws.length + 1 = ws2.length) := by rw [Hid, hws2, List.length_append, List.length_singleton]
      have Z10 : Hid (jCnt o (ws.map BS.l) + 1 = jCnt o (ws2.map BS.l)) := by rw [Hid, cnt_step _ _ x.b, hws2, List.map_append]; rfl
      rw [← hws2] at HOps
      rw [← hdX] at P1 P2 P3 P4 P5 P6 HH3
      clear hws2 hdX S8 S9 S10 x8a
      go_wp2_with fail
      rw [Z8.out, Z10.out]
      clear Z8 Z10 hcb0 hcb1
      have OP : Hid (jPic dX 1000 2000 = o) := P1
      have OO : Hid (jOps dX 1000 2000 = ws2.map BS.l) := by rw [Hid, ← HOps.out]; exact P2.out
      have OU : Hid (jUsed dX 1000 2000 = u2) := P3
      have OL : Hid (dX.lasts.length = 4000) := P4
      have OW : Hid (dX.waits = []) := P5
      have OY : Hid (dX.syncs < 1000000) := by rw [Hid, show dX.syncs = _ from P6.out]; omega
      have OI : Hid (JInv 4000 1000 2000 (jDisk dX 1000 2000) u2 o (ws2.map BS.l) (2 * (k + 1) + 1)) := by rw [Hid, ← HOps.out]; exact HH3.out
      have PIC := hid HAll.out.pic
      have pl2 := HAll.out.pl
      clear P1 P2 P3 P4 P5 P6 HH3 HOps HX HXl
      go_wp2_with fail
      refine (jOpenI SX G (by decide) OL.out (by omega) (by rw [OW.out]; simp) OY.out OP.out OO.out OU.out).mono ?_
      rintro e w9 ⟨gj2, gl2, gs2, a9, c9, b9, m9, kk9, zs, rfl, hp1, hp2, hp3, hzs, hm9, hhd9, S9⟩
      have hro : At w9 a9 (picL o) := Reads.ro 4 rfl w9 [] S9
      have hm92 : m9 = ws2.length := by rw [← hm9]; have := congrArg List.length hzs; simpa using this
      clear hm9
      subst hm92
      have HZS := hid hzs
      have HHD9 := hid hhd9
      have HRO := hid hro
      clear SX hp1 hp2 hp3 hzs hhd9 hro
      go_wp2_with fail
      refine (bytes_any a9 pa (picL o) (picL o) _ _ c9 pc _ rfl rfl (by unfold maxLen; omega) (by unfold maxLen; omega) HRO.out (S9.old PIC.out)).mono ?_
      rintro e wb ⟨rfl, nz, rfl⟩
      rw [show (picL o == picL o) = true by simp]
      have S10 := S9.drewN nz
      clear S9 HRO
      go_wp2_with fail
      refine (same_rows S10 (k := 5) (j := 6) rfl HHD9.out rfl HW2.out (by omega) (by omega)).mono ?_
      rintro e wc ⟨rfl, S11⟩
      rw [show (zs.map BS.l == ws2.map BS.l) = true by rw [HZS.out]; simp]
      clear S10
      go_wp2_with fail
      refine (jlCount S11).mono ?_
      rintro e wd ⟨rfl, rfl⟩
      have qq : (jCnt o (ws2.map BS.l) != jCnt o (ws2.map BS.l)) = false := by simp
      have S12 : St w wc (jL gj2 gl2 gs2 pd 1000 2000 u2 (jDisk dX 1000 2000) o (ws2.map BS.l) [ownT eS (.slice aw2 ws2.length cw2) ws2]) := ((S11.front 6 rfl).take 5).unrot
      go_wp2
      go_roundw
      case rel => exact ⟨k + 1, u2, gj2, gl2, gs2, _, o, ws2, aw2, cw2, pa, pc, _, _, _, _, _, by omega, rfl, rfl, rfl, rfl, by go_num, rfl, rfl, rfl, rfl, rfl, ⟨OI.out, few2, use2, HW2.out, PIC.out, pl2⟩, S12⟩
      case measure => simp [intOf]; omega
    case false =>
      have hkp : ¬ f ≤ x.keep := of_decide_eq_false hpb
      have HE2 := HE.out
      rw [if_neg hkp] at HE2
      have HOps : Hid (ops' = ws.map BS.l) := HE2
      clear hpb HE HE2 hkp hcb
      go_wp2_with fail
      refine (hcrash S8 0 rfl x.keep HX.out.k0 HX.out.k1 (by omega)).mono ?_
      rintro e w9 ⟨rfl, S10⟩
      obtain ⟨ws2, aw2, cw2, dX, hws2, hdX, Z8, SX, few2, HW2⟩ : ∃ (ws2 : List BS) (aw2 : Option Addr) (cw2 : Nat) (dX : DSt), ws2 = ws ∧ dX = r2.crash x.keep ∧ Hid (Value.slice aw ws.length cw = .slice aw2 ws2.length cw2) ∧ St w w9 [diskT pd dX, ownT eS (.slice aw2 ws2.length cw2) ws2] ∧ picA o + ws2.length ≤ k + 1 ∧ Hid (∀ x ∈ ws2, BS.Hd x ∧ At w x.a x.l) := ⟨ws, aw, cw, _, rfl, rfl, rfl, S10.take 2, by omega, HAll.out.old⟩
      have Z10 : Hid (jCnt o (ws.map BS.l) = jCnt o (ws2.map BS.l)) := by rw [Hid, hws2]
      rw [← hws2] at HOps
      rw [← hdX] at P1 P2 P3 P4 P5 P6 HH3
      clear hws2 hdX S8 S10
      go_wp2_with fail
      rw [Z8.out, Z10.out]
      clear Z8 Z10
      have OP : Hid (jPic dX 1000 2000 = o) := P1
      have OO : Hid (jOps dX 1000 2000 = ws2.map BS.l) := by rw [Hid, ← HOps.out]; exact P2.out
      have OU : Hid (jUsed dX 1000 2000 = u2) := P3
      have OL : Hid (dX.lasts.length = 4000) := P4
      have OW : Hid (dX.waits = []) := P5
      have OY : Hid (dX.syncs < 1000000) := by rw [Hid, show dX.syncs = _ from P6.out]; omega
      have OI : Hid (JInv 4000 1000 2000 (jDisk dX 1000 2000) u2 o (ws2.map BS.l) (2 * (k + 1) + 1)) := by rw [Hid, ← HOps.out]; exact HH3.out
      have PIC := hid HAll.out.pic
      have pl2 := HAll.out.pl
      clear P1 P2 P3 P4 P5 P6 HH3 HOps HX HXl
      go_wp2_with fail
      refine (jOpenI SX G (by decide) OL.out (by omega) (by rw [OW.out]; simp) OY.out OP.out OO.out OU.out).mono ?_
      rintro e w9 ⟨gj2, gl2, gs2, a9, c9, b9, m9, kk9, zs, rfl, hp1, hp2, hp3, hzs, hm9, hhd9, S9⟩
      have hro : At w9 a9 (picL o) := Reads.ro 4 rfl w9 [] S9
      have hm92 : m9 = ws2.length := by rw [← hm9]; have := congrArg List.length hzs; simpa using this
      clear hm9
      subst hm92
      have HZS := hid hzs
      have HHD9 := hid hhd9
      have HRO := hid hro
      clear SX hp1 hp2 hp3 hzs hhd9 hro
      go_wp2_with fail
      refine (bytes_any a9 pa (picL o) (picL o) _ _ c9 pc _ rfl rfl (by unfold maxLen; omega) (by unfold maxLen; omega) HRO.out (S9.old PIC.out)).mono ?_
      rintro e wb ⟨rfl, nz, rfl⟩
      rw [show (picL o == picL o) = true by simp]
      have S10 := S9.drewN nz
      clear S9 HRO
      go_wp2_with fail
      refine (same_rows S10 (k := 5) (j := 6) rfl HHD9.out rfl HW2.out (by omega) (by omega)).mono ?_
      rintro e wc ⟨rfl, S11⟩
      rw [show (zs.map BS.l == ws2.map BS.l) = true by rw [HZS.out]; simp]
      clear S10
      go_wp2_with fail
      refine (jlCount S11).mono ?_
      rintro e wd ⟨rfl, rfl⟩
      have qq : (jCnt o (ws2.map BS.l) != jCnt o (ws2.map BS.l)) = false := by simp
      have S12 : St w wc (jL gj2 gl2 gs2 pd 1000 2000 u2 (jDisk dX 1000 2000) o (ws2.map BS.l) [ownT eS (.slice aw2 ws2.length cw2) ws2]) := ((S11.front 6 rfl).take 5).unrot
      go_wp2
      go_roundw
      case rel => exact ⟨k + 1, u2, gj2, gl2, gs2, _, o, ws2, aw2, cw2, pa, pc, _, _, _, _, _, by omega, rfl, rfl, rfl, rfl, by go_num, rfl, rfl, rfl, rfl, rfl, ⟨OI.out, few2, use2, HW2.out, PIC.out, pl2⟩, S12⟩
      case measure => simp [intOf]; omega
end Go.Proofs.Ytmfbbonppmhabaa
