/- LogSame. -/
import Derived.Test.YtkkailggpfmgaaaLogLaw
import Derived.Test.YtkkailggpfmgaaaLogInv
import Derived.Test.YtkkailggpfmgaaaOpen2
namespace Go.Proofs.Ytkkailggpfmgaaa
set_option linter.unusedVariables false
set_option linter.unusedSimpArgs false
open Go.RowKit

set_option maxRecDepth 10000 in
set_option maxHeartbeats 3200000 in
theorem logSame_law (s : Nat) (a : Option Addr) (L : List BS) (n ca : Nat) (w : World) (hs : s < 256) (hn : L.length = n) (hm : n ≤ maxLen) (hA : AtG eS w a L) (hok : ∀ x ∈ L, BS.Hd x ∧ At w x.a x.l) :
    Calls Try.prog 5 #[.int .u8 s, .slice a n ca] w fun e w' => e = .returned (.bool true) ∧ Below w.heap.size w w' := by
  have HN := hid hn
  have HA := hid hA
  have HOk := hid hok
  unfold maxLen at hm
  have S0 := St.start w
  obtain ⟨sz, hsz⟩ : ∃ sz, 1 + s = sz := ⟨_, rfl⟩
  have e1 : IntKind.i64.wrap (1 + (s : Int)) = (sz : Int) := by rw [IntKind.wrap_i64]; omega
  have e2 : IntKind.i64.wrap (s : Int) = (s : Int) := by rw [IntKind.wrap_i64]; omega
  obtain ⟨d0, ps0, u0, hd0, hps0, hu0, hI0, hw0, hs0, hl0, hp0, hz0⟩ := logNew (N := 300) (fr := 0) (sz := sz) (by omega) (by omega)
  subst hp0
  have HD := hid hd0
  have HPs := hid hps0
  have HU := hid hu0
  clear hn hA hok hd0 hps0 hu0
  go_enter Try.func5, Try.ntmps5
  go_wp2_with fail
  refine (alive5_any _).mono ?_
  rintro e w1 ⟨rfl, hb1⟩
  have S1 := S0.grow hb1
  clear hb1
  go_wp2_with fail
  all_goals (try (go_ret; exact ⟨rfl, S1.fin⟩))
  refine (hnew S1 300 (by omega) (by omega)).mono ?_
  rintro e w2 ⟨pd, rfl, S2, -⟩
  go_wp2_with fail
  refine (logOpen_yes (by exact S2) 0 sz (by omega) (by simp [DSt.new]; omega) (by simp [DSt.new]) (by simp [DSt.new])).mono ?_
  rintro e w3 ⟨g, a3, c3, xs, rfl, -, -, S3'⟩
  rw [HD.out, HU.out] at S3'
  have S3 : St w w3 [cellsT g 81 (logC pd 0 sz u0), diskT pd d0, ownT eS (.slice none 0 0) []] := (S3'.take 2).nilG eS
  clear S3'
  go_wp2_with fail
  go_loopw [9, 10] (fun v i wr => ∃ (k u : Nat) (d : DSt) (ws : List BS) (aw : Option Addr) (cw : Nat), k ≤ n ∧ v = .slice aw ws.length cw ∧ i = .int .i64 k ∧ ws.length ≤ k ∧ (∀ x ∈ ws, BS.Hd x ∧ At w x.a x.l) ∧ LogInv d 0 sz u (ws.map BS.l) ∧ d.waits = [] ∧ d.syncs ≤ 1 + k ∧ d.lasts.length = 300 ∧ St w wr [cellsT g 81 (logC pd 0 sz u), diskT pd d, ownT eS (.slice aw ws.length cw) ws]) (fun _ i _ => n - (intOf i).toNat)
  case atStart => exact ⟨0, u0, d0, [], none, 0, Nat.zero_le _, rfl, rfl, Nat.zero_le _, by simp, hI0, hw0, by omega, hl0, S3⟩
  case round =>
    obtain ⟨k, u, d, ws, aw, cw, hk, rfl, rfl, hwk, hws, hI, hw, hsy, hl, Sk⟩ := hrel
    have HWs := hid hws
    clear hws
    have hu := hI.le
    by_cases hlt : k < n
    · have hkL : k < L.length := by rw [HN.out]; exact hlt
      have i0 := fun wx => idxS a n ca (fun h => HA.out.ok (by rw [HN.out]; exact h)) k k rfl hlt wx
      have HX := hid (HOk.out _ (List.getElem_mem hkL))
      have HC : Hid (∀ w', Below w.heap.size w w' → w'.cell? (adr a k) = some (.slice L[k].a L[k].n L[k].c)) := fun w' h => (HA.out.all eSok h).cellS hkL
      generalize L[k] = x at *
      generalize adr a k = A at *
      have x0 := HC.out _ Sk.fin
      by_cases q1 : 120 < x.n
      · have g1 : decide ((120 : Int) < (x.n : Int)) = true := decide_eq_true (by omega)
        go_wp2
        go_ret
        exact ⟨rfl, Sk.fin⟩
      have g1 : decide ((120 : Int) < (x.n : Int)) = false := decide_eq_false (by omega)
      have hap := hI.app hw x.l (by rw [HX.out.1.len]; omega)
      rw [HX.out.1.len] at hap
      have hmx : x.n ≤ maxLen := Nat.le_trans HX.out.1.le HX.out.1.big
      go_wp2_with fail
      refine (logApp_any Sk x.a x.l x.n x.c HX.out.1.len hmx HX.out.1.le HX.out.1.nil (Reads.old HX.out.2) (by omega) (by omega) (by rw [hw]; simp) (by omega)).mono ?_
      rintro e w6 ⟨rfl, S6⟩
      obtain ⟨r, hr⟩ : ∃ r, logApp d 0 sz u x.l = r := ⟨_, rfl⟩
      rw [hr] at hap S6 ⊢
      have x6 := HC.out _ S6.fin
      rcases hap with ⟨h1, h2, h3, h4, h5, h6, h7, h8⟩ | ⟨h1, h2, h3, h4⟩
      · rw [h3]
        rw [h4] at S6
        obtain ⟨u2, hu2⟩ : ∃ u2, u + (frameB x.l).length = u2 := ⟨_, rfl⟩
        rw [hu2] at S6 h5
        have hG := hid (rfl : w6.heap.size = w6.heap.size)
        go_wp2_with (at_builtin; refine wpList_app (by rfl) (.tmp 53) (.tmp 58) 28 28 28 rfl rfl _ _ rfl rfl (S6.appG1 eSok _ rfl 2 rfl x #[.slice x.a x.n x.c] rfl (ws.length + 1) rfl (by show _ * 24 ≤ _; omega) (by unfold maxLen; omega)) ?_; rintro v7 w7 ⟨⟨a7, c7, rfl⟩, S7⟩)
        go_roundw
        case rel => exact ⟨k + 1, u2, r.2.1, ws ++ [x], a7, c7, by omega, by rw [List.length_append]; rfl, by go_num, by rw [List.length_append, List.length_singleton]; omega, by
          intro y hy
          rcases List.mem_append.1 hy with hy | hy
          · exact HWs.out y hy
          · simp at hy; subst hy; exact HX.out, by rw [List.map_append]; exact h5, h6, by omega, by omega, by rw [List.length_append]; exact S7⟩
        case measure => simp [intOf]; omega
      · rw [h3, h4] at S6
        have g2 : (r.1 == 0) = false := by rcases h2 with h2 | h2 <;> rw [h2] <;> rfl
        go_wp2
        go_roundw
        case rel => exact ⟨k + 1, u, d, ws, aw, cw, by omega, rfl, by go_num, by omega, HWs.out, hI, hw, by omega, by omega, S6⟩
        case measure => simp [intOf]; omega
    · go_wp2_with fail
      refine (logOpen_inv (by exact Sk.front 1 rfl) 0 sz hI.fit hI.all (by omega) (by omega) (by rw [hw]; simp) (by omega)).mono ?_
      rintro e w7 ⟨g7, a7, c7, ps7, d7, rfl, hps7, hhd7, hI7, hw7, hs7, hl7, S7⟩
      rw [List.length_map] at S7 ⊢
      go_wp2_with fail
      refine (logOpen_inv (by exact S7.front 1 rfl) 0 sz hI7.fit hI7.all (by omega) (by omega) (by rw [hw7]; simp) (by omega)).mono ?_
      rintro e w8 ⟨g8, a8, c8, ps8, d8, rfl, hps8, hhd8, hI8, hw8, hs8, hl8, S8⟩
      rw [List.length_map] at S8 ⊢
      have t1 : (ps7.map BS.l == ws.map BS.l) = true := by rw [hps7]; simp
      have t2 : (ps8.map BS.l == ws.map BS.l) = true := by rw [hps8]; simp
      go_wp2_with fail
      refine (same_rows S8 (k := 4) (j := 6) rfl hhd7 rfl HWs.out (by omega) (by omega)).mono ?_
      rintro e w9 ⟨rfl, S9⟩
      rw [t1]
      go_wp2_with fail
      refine (same_rows (by exact S9) (k := 2) (j := 6) rfl hhd8 rfl HWs.out (by omega) (by omega)).mono ?_
      rintro e w10 ⟨rfl, S10⟩
      rw [t2]
      have C10 : St w w10 [cellsT g 81 (logC pd 0 sz u)] := (S10.drop 5).take 1
      have D10 : St w w10 [cellsT g7 81 (logC pd 0 sz u)] := (S10.drop 3).take 1
      have E10 : St w w10 [cellsT g8 81 (logC pd 0 sz u)] := S10.take 1
      go_wp2_with fail
      refine (logUsed_any D10).mono ?_
      rintro e w11 ⟨rfl, rfl⟩
      go_wp2_with fail
      refine (logUsed_any C10).mono ?_
      rintro e w11 ⟨rfl, rfl⟩
      go_wp2_with fail
      refine (logUsed_any E10).mono ?_
      rintro e w11 ⟨rfl, rfl⟩
      go_wp2_with fail
      refine (logUsed_any C10).mono ?_
      rintro e w11 ⟨rfl, rfl⟩
      go_wp2
      go_ret
      exact ⟨rfl, S10.fin⟩

end Go.Proofs.Ytkkailggpfmgaaa
