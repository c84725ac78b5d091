/- LogTorn. -/
import Derived.Test.YtkkailggpfmgaaaLogLaw
import Derived.Test.YtkkailggpfmgaaaLogActs
import Derived.Test.YtkkailggpfmgaaaLogTear
namespace Go.Proofs.Ytkkailggpfmgaaa
set_option linter.unusedVariables false
set_option linter.unusedSimpArgs false
open Go.RowKit

set_option maxRecDepth 10000 in
set_option maxHeartbeats 3200000 in
theorem logTorn_law (a : Option Addr) (L : List LAct) (m cap : Nat) (w : World) (hm : L.length = m) (hm1 : m ≤ maxLen) (hA : AtG eLA w a L) (hok : ∀ x ∈ L, LAct.Ok w x) :
    Calls Try.prog 3 #[.slice a m cap] w fun e w' => e = .returned (.bool true) ∧ Below w.heap.size w w' := by
  have HM := hid hm
  have HA := hid hA
  have HOk := hid hok
  have S0 := St.start w
  have hmL := hm1
  unfold maxLen at hmL
  clear hm hA hok
  by_cases hf : few5 L = true
  case neg =>
    have HF : Hid (few5 L = false) := by rw [Hid]; simpa using hf
    clear hf
    go_enter Try.func3, Try.ntmps3
    go_wp2_with fail
    refine (alive5_any _).mono ?_
    rintro e w1 ⟨rfl, hb1⟩
    have S1 := S0.grow hb1
    clear hb1
    go_wp2_with (refine (few5_any a L m cap w1 HM.out hm1 (by exact HA.out.all eLAok S1.fin)).mono ?_; rintro e w2 ⟨rfl, rfl⟩; rw [HF.out])
    all_goals (go_ret; exact ⟨rfl, S1.fin⟩)
  have HF := hid hf
  have hfw := hf
  unfold few5 at hfw
  rw [Bool.and_eq_true, decide_eq_true_iff, List.all_eq_true, HM.out] at hfw
  have hm60 := hfw.1
  obtain ⟨D, hD, hDf, hDa, hDl, hDw, hDs⟩ := new_is (N := 4000) (fr := 8) (sz := 3900) (by omega)
  have HD := hid hD
  clear hf hfw hD
  go_enter Try.func3, Try.ntmps3
  go_wp2_with fail
  refine (alive5_any _).mono ?_
  rintro e w1 ⟨rfl, hb1⟩
  have S1 := S0.grow hb1
  clear hb1
  go_wp2_with (refine (few5_any a L m cap w1 HM.out hm1 (by exact HA.out.all eLAok S1.fin)).mono ?_; rintro e w2 ⟨rfl, rfl⟩; rw [HF.out])
  all_goals (try (go_ret; exact ⟨rfl, S1.fin⟩))
  refine (hnew S1 4000 (by omega) (by omega)).mono ?_
  rintro e w2 ⟨pd, rfl, S2, -⟩
  go_wp2_with fail
  rw [HD.out] at S2
  refine (logOpen_inv (by exact S2) 8 3900 hDf hDa (by omega) (by omega) (by rw [hDw]; simp) (by omega)).mono ?_
  rintro e w3 ⟨g0, a3, c3, xs, d0, rfl, -, -, hI0, hw0, hs0, hl0, S3'⟩
  have S3 : St w w3 [cellsT g0 81 (logC pd 8 3900 0), diskT pd d0, ownT eS (.slice none 0 0) []] := (S3'.take 2).nilG eS
  clear S3' S2
  go_wp2_with fail
  go_loopw [4, 7, 8] (fun l v i wr => ∃ (k u g : Nat) (d : DSt) (ws : List BS) (aw : Option Addr) (cw : Nat), k ≤ m ∧ l = .pointer (some ⟨g, 0, none⟩) ∧ v = .slice aw ws.length cw ∧ i = .int .i64 k ∧ ws.length ≤ k ∧ (∀ x ∈ ws, BS.Hd x ∧ At w x.a x.l) ∧ LogInv d 8 3900 u (ws.map BS.l) ∧ d.waits = [] ∧ d.syncs ≤ 1 + 2 * k ∧ d.lasts.length = 4000 ∧ u ≤ 86 * k ∧ St w wr [cellsT g 81 (logC pd 8 3900 u), diskT pd d, ownT eS (.slice aw ws.length cw) ws]) (fun _ _ i _ => m - (intOf i).toNat)
  case atStart => exact ⟨0, 0, g0, d0, [], none, 0, Nat.zero_le _, rfl, rfl, rfl, Nat.zero_le _, by simp, hI0, hw0, by omega, by omega, by omega, S3⟩
  case round =>
    obtain ⟨k, u, g, d, ws, aw, cw, hk, rfl, rfl, rfl, hwk, hws, hI, hw, hsy, hl, huk, Sk⟩ := hrel
    have HWs := hid hws
    clear hws
    have hu := hI.le
    by_cases hlt : k < m
    · have hkl : k < L.length := by rw [HM.out]; exact hlt
      have i0 := fun wx => idxLA a m cap (fun h => HA.out.ok (by rw [HM.out]; exact h)) k k rfl hlt wx
      have HEl : Hid (∀ w', Below w.heap.size w w' → _ ∧ _ ∧ _) := fun w' hb => (HA.out.all eLAok hb).cellL hkl
      have HX := hid (HOk.out _ (List.getElem_mem hkl))
      generalize L[k] = x at *
      generalize adr a (k * 3) = A at *
      obtain ⟨y0, y1, y2⟩ := HEl.out _ Sk.fin
      by_cases h0 : x.n = 0
      · have g0 : ((x.n : Int) == 0) = true := by rw [h0]; rfl
        go_wp2
        go_roundw
        case rel => exact ⟨k + 1, u, g, d, ws, aw, cw, by omega, rfl, rfl, by go_num, by omega, HWs.out, hI, hw, by omega, hl, by omega, Sk.alloc _⟩
        case measure => simp [intOf]; omega
      have g0 : ((x.n : Int) == 0) = false := by simpa using h0
      by_cases h80 : 80 < x.n
      · have g1 : decide ((80 : Int) < (x.n : Int)) = true := decide_eq_true (by omega)
        go_wp2
        go_roundw
        case rel => exact ⟨k + 1, u, g, d, ws, aw, cw, by omega, rfl, rfl, by go_num, by omega, HWs.out, hI, hw, by omega, hl, by omega, Sk.alloc _⟩
        case measure => simp [intOf]; omega
      have g1 : decide ((80 : Int) < (x.n : Int)) = false := decide_eq_false (by omega)
      have hlen := HX.out.len
      have S5 : St w (wr.alloc (.cells #[.int .i64 x.kind, .int .i64 x.keep, .slice x.a x.n x.c] 34)) [cellsT g 81 (logC pd 8 3900 u), diskT pd d, ownT eS (.slice aw ws.length cw) ws, cellsT wr.heap.size 34 [.int .i64 x.kind, .int .i64 x.keep, .slice x.a x.n x.c]] := Sk.newCells _ _
      have hfs := frame_short (p := x.b) (by omega) (by omega)
      rw [hlen] at hfs
      have hroom : (frameB x.b).length + u ≤ 3900 := by omega
      obtain ⟨u2, hu2⟩ : ∃ u2, u + (frameB x.b).length = u2 := ⟨_, rfl⟩
      by_cases hk0 : x.kind = 0
      · have g2 : (x.kind == 0) = true := by simpa using hk0
        clear hk0
        have hap := hI.app hw x.b (by omega)
        go_wp2_with fail
        refine (logApp_any (by exact S5) x.a x.b x.n x.c hlen (by unfold maxLen; omega) HX.out.le HX.out.nil (Reads.old HX.out.isAt) (by omega) (by omega) (by rw [hw]; simp) (by omega)).mono ?_
        rintro e w6 ⟨rfl, S6⟩
        obtain ⟨r, hr⟩ : ∃ r, logApp d 8 3900 u x.b = r := ⟨_, rfl⟩
        rw [hr] at hap S6 ⊢
        rcases hap with ⟨h1, h2, h3, h4, h5, h6, h7, h8⟩ | ⟨h1, h2, h3, h4⟩
        · rw [h3]
          rw [h4, hu2] at S6
          rw [hu2] at h5
          have x6 := S6.cell 3 rfl 2 rfl
          go_wp2_with (at_builtin; refine wpList_app (by rfl) (.tmp 57) (.tmp 60) 28 28 28 rfl rfl _ _ rfl rfl (S6.appG1 eSok _ rfl 2 rfl x.bs #[.slice x.a x.n x.c] rfl (ws.length + 1) rfl (by show _ * 24 ≤ _; omega) (by unfold maxLen; omega)) ?_; rintro v7 w7 ⟨⟨a7, c7, rfl⟩, S7⟩)
          go_roundw
          case rel => exact ⟨k + 1, u2, g, r.2.1, ws ++ [x.bs], a7, c7, by omega, rfl, by rw [List.length_append]; rfl, by go_num, by rw [List.length_append, List.length_singleton]; omega, by
            intro y hy
            rcases List.mem_append.1 hy with hy | hy
            · exact HWs.out y hy
            · simp at hy; subst hy; exact HX.out.hd, by rw [List.map_append]; exact h5, h6, by omega, by omega, by omega, by rw [List.length_append]; exact S7.take 3⟩
          case measure => simp [intOf]; omega
        · rw [frame_room (by omega) (by omega)] at h1
          simp at h1
          omega
      have g2 : (x.kind == 0) = false := by simpa using hk0
      clear hk0
      have hpo := logPut_ok (d := d) (fr := 8) (sz := 3900) (used := u) (p := x.b) (by omega) (by omega) hroom
      have t1 : IntKind.i64.wrap ((u2 : Int) - (u : Int)) = ((frameB x.b).length : Int) := by rw [IntKind.wrap_i64]; omega
      go_wp2_with fail
      refine (logUsed_any (by exact S5)).mono ?_
      rintro e w5 ⟨rfl, rfl⟩
      go_wp2_with fail
      refine (logPut_any (by exact S5) x.a x.b x.n x.c hlen (by unfold maxLen; omega) HX.out.le HX.out.nil (Reads.old HX.out.isAt) (by omega) (by omega) (by rw [hw]; simp)).mono ?_
      rintro e w6 ⟨rfl, S6⟩
      rw [hpo] at S6 ⊢
      simp only [hu2] at S6
      go_wp2_with fail
      refine (logUsed_any (by exact S6)).mono ?_
      rintro e w7 ⟨rfl, rfl⟩
      have x6 := S6.cell 3 rfl 1 rfl
      have HTorn := hid (hI.torn hw (p := x.b) (by omega) (by omega) hroom x.keep)
      obtain ⟨e1, e2, e3, e4⟩ := crash_one (d := d) (k := 8 + u) (f := frameB x.b) hw (by omega) x.keep
      have hwl : (d.write ((8 + u : Nat) : Int) (frameB x.b)).waits.length ≤ 1000000 := by
        have := DSt.write_waits d ((8 + u : Nat) : Int) (frameB x.b); rw [hw] at this; exact Nat.le_trans this (by simp)
      go_wp2_with fail
      refine (hcrash S6 1 rfl x.keep HX.out.k0 HX.out.k1 hwl).mono ?_
      rintro e w8 ⟨rfl, S8'⟩
      obtain ⟨d8, hd8⟩ : ∃ d8, (d.write ((8 + u : Nat) : Int) (frameB x.b)).crash x.keep = d8 := ⟨_, rfl⟩
      have S8 : St w w8 [cellsT g 81 (logC pd 8 3900 u2), diskT pd d8, ownT eS (.slice aw ws.length cw) ws, cellsT wr.heap.size 34 [.int .i64 x.kind, .int .i64 x.keep, .slice x.a x.n x.c]] := St.conv S8' (by rw [← hd8]; rfl)
      rw [hd8] at e1 e2 e3 e4 HTorn
      clear S8' hd8 e1 hwl hpo
      by_cases hkp : ((frameB x.b).length : Int) ≤ x.keep
      · have HT := HTorn.out
        rw [if_pos hkp] at HT
        have g3 : decide ((x.n : Int) + 6 ≤ x.keep) = true := decide_eq_true (by omega)
        go_wp2_with fail
        refine (logOpen_inv (by exact S8.front 1 rfl) 8 3900 (by intro y hy; rw [e3] at hy; simp at hy) HT (by omega) (by omega) (by rw [e3]; simp) (by omega)).mono ?_
        rintro e w9 ⟨g9, a9, c9, qs, d9, rfl, hqs, hqd, hI9, hw9, hs9, hl9, S9⟩
        rw [show ((ws.map BS.l) ++ [x.b]).length = ws.length + 1 by simp] at S9 ⊢
        rw [hu2] at S9 hI9
        have x9 := S9.cell 5 rfl 1 rfl
        have x9b := S9.cell 5 rfl 2 rfl
        go_wp2_with (at_builtin; refine wpList_app (by rfl) (.tmp 87) (.tmp 90) 28 28 28 rfl rfl _ _ rfl rfl (S9.appG1 eSok _ rfl 4 rfl x.bs #[.slice x.a x.n x.c] rfl (ws.length + 1) rfl (by show _ * 24 ≤ _; omega) (by unfold maxLen; omega)) ?_; rintro v7 w10 ⟨⟨a7, c7, rfl⟩, S10⟩)
        have hws2 : ∀ y ∈ ws ++ [x.bs], BS.Hd y ∧ At w y.a y.l := by
          intro y hy
          rcases List.mem_append.1 hy with hy | hy
          · exact HWs.out y hy
          · simp at hy; subst hy; exact HX.out.hd
        refine (same_rows (by exact S10) (k := 2) (j := 4) rfl hqd rfl hws2 (by omega) (by omega)).mono ?_
        rintro e w11 ⟨rfl, S11⟩
        have t2 : (qs.map BS.l == (ws ++ [x.bs]).map BS.l) = true := by rw [hqs]; simp [LAct.bs]
        rw [t2]
        go_wp2
        go_roundw
        case rel => exact ⟨k + 1, u2, g9, d9, ws ++ [x.bs], a7, c7, by omega, rfl, by rw [List.length_append]; rfl, by go_num, by rw [List.length_append, List.length_singleton]; omega, hws2, by rw [List.map_append]; exact hI9, hw9, by omega, by omega, by omega, by rw [List.length_append]; exact ((S11.front 4 rfl).front 2 rfl |>.front 2 rfl).take 3⟩
        case measure => simp [intOf]; omega
      · have HT := HTorn.out
        rw [if_neg hkp] at HT
        have g3 : decide ((x.n : Int) + 6 ≤ x.keep) = false := decide_eq_false (by omega)
        go_wp2_with fail
        refine (logOpen_inv (by exact S8.front 1 rfl) 8 3900 (by intro y hy; rw [e3] at hy; simp at hy) HT (by omega) (by omega) (by rw [e3]; simp) (by omega)).mono ?_
        rintro e w9 ⟨g9, a9, c9, qs, d9, rfl, hqs, hqd, hI9, hw9, hs9, hl9, S9⟩
        rw [List.length_map] at S9 ⊢
        have x9 := S9.cell 5 rfl 1 rfl
        go_wp2_with fail
        refine (same_rows S9 (k := 2) (j := 4) rfl hqd rfl HWs.out (by omega) (by omega)).mono ?_
        rintro e w10 ⟨rfl, S10⟩
        have t2 : (qs.map BS.l == ws.map BS.l) = true := by rw [hqs]; simp
        rw [t2]
        go_wp2
        go_roundw
        case rel => exact ⟨k + 1, u, g9, d9, ws, aw, cw, by omega, rfl, rfl, by go_num, by omega, HWs.out, hI9, hw9, by omega, by omega, by omega, ((S10.front 4 rfl).front 2 rfl |>.front 2 rfl).take 3⟩
        case measure => simp [intOf]; omega
    · go_wp2
      go_ret
      exact ⟨rfl, Sk.fin⟩

end Go.Proofs.Ytkkailggpfmgaaa
