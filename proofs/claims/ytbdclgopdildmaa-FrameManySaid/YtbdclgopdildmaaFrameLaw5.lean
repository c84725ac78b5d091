/- FrameMany. -/
import Derived.Test.YtbdclgopdildmaaFrameLaw2
import Derived.Test.YtbdclgopdildmaaOpen
namespace Go.Proofs.Ytbdclgopdildmaa
set_option linter.unusedVariables false
set_option linter.unusedSimpArgs false
open Go.RowKit

/-- A slice of bytes that came in as an element. -/
theorem BS.conv {H : Type} {enc : TypeId × Value → H} {w : World} {base : Nat} {spare : Nat → Bool} {held : Bool} (fuel : Nat) (cs : List Value) (x : DataW H × List MemPlace) (_ : cs.length = eS.s)
    (h : DataW.trod enc Try.prog w base spare held fuel eS.E cs = some x) : ∃ y : BS, cs = eS.enc y ∧ (BS.Hd y ∧ At w y.a y.l) := by
  obtain ⟨a, n, c, l, rfl, h1, h2, h3, h4, h5⟩ := open_bytes sliceB u8T (by kernel_rfl) h
  exact ⟨⟨a, n, c, l⟩, rfl, ⟨h1, h2, h3, h4⟩, h5⟩
theorem frame_le (p : List UInt8) (h : p.length ≤ 200) : (frameB p).length ≤ 213 := by
  rw [frameB]
  split
  · simp
  · have := codeNum_len (p.length : Int)
    simp only [List.length_append, putB_length, List.length_singleton]; omega
theorem frames_take {ls : List (List UInt8)} {k : Nat} (h : k < ls.length) : (ls.take (k + 1)).flatMap frameB = (ls.take k).flatMap frameB ++ frameB ls[k] := by
  rw [List.take_succ_eq_append_getElem h]; simp only [List.flatMap_append, List.flatMap_cons, List.flatMap_nil, List.append_nil]

set_option maxRecDepth 10000 in
set_option maxHeartbeats 3200000 in
theorem frameMany_law (a b : Option Addr) (L : List BS) (m : List UInt8) (n j ca cb : Nat) (w : World) (hn : L.length = n) (hj : m.length = j) (hm : n ≤ maxLen) (hmj : j ≤ maxLen) (hA : AtG eS w a L) (hok : ∀ x ∈ L, BS.Hd x ∧ At w x.a x.l) (hB : At w b m) :
    Calls Try.prog 10 #[.slice a n ca, .slice b j cb] w fun e w' => e = .returned (.bool true) ∧ Below w.heap.size w w' := by
  have HN := hid hn
  have HJ := hid hj
  have HA := hid hA
  have HOk := hid hok
  obtain ⟨ls, hls⟩ : ∃ ls, L.map BS.l = ls := ⟨_, rfl⟩
  have HLs := hid hls
  have HLn : Hid (ls.length = n) := by rw [Hid, ← hls, List.length_map]; exact hn
  unfold maxLen at hm hmj
  have S0 := St.start w
  clear hn hj hA hok hls
  go_enter Try.func10, Try.ntmps10
  go_wp2_with fail
  refine (alive3_any _).mono ?_
  rintro e w1 ⟨rfl, hb1⟩
  have S1 := S0.grow hb1
  clear hb1
  go_wp2_with fail
  all_goals (try (go_ret; exact ⟨rfl, S1.fin⟩))
  have hb : n ≤ 30 ∧ j ≤ 100 := by omega
  have S2 := S1.nil
  go_loopw [5, 6] (fun v i wr => ∃ (k T : Nat) (a1 : Option Addr) (c1 : Nat), k ≤ n ∧ v = .slice a1 T c1 ∧ i = .int .i64 k ∧ T ≤ k * 213 ∧ (∀ p ∈ ls.take k, 1 ≤ p.length ∧ p.length ≤ 4000) ∧ St w wr [bytesT (.slice a1 T c1) ((ls.take k).flatMap frameB)]) (fun _ i _ => n - (intOf i).toNat)
  case atStart => exact ⟨0, 0, none, 0, Nat.zero_le _, rfl, rfl, Nat.zero_le _, by simp, S2⟩
  case round =>
    obtain ⟨k, T, a1, c1, hk, rfl, rfl, hT, hall, Sk⟩ := hrel
    have HAll := hid hall
    have HT := hid (Sk.slA 0 rfl).1
    clear hall
    by_cases hlt : k < n
    · have hkL : k < L.length := by rw [HN.out]; exact hlt
      have hkl : k < ls.length := by rw [HLn.out]; exact hlt
      have i0 := fun wx => idxS a n ca (fun h => HA.out.ok (by rw [HN.out]; exact h)) k k rfl hlt wx
      have x0 := (HA.out.all eSok Sk.fin).cellS hkL
      have HX := hid (HOk.out _ (List.getElem_mem hkL))
      have HF := hid (frames_take hkl)
      have hlk : ls[k] = L[k].l := by simp only [← HLs.out, List.getElem_map]
      have HAl2 : Hid (1 ≤ L[k].l.length → L[k].l.length ≤ 200 → ∀ p ∈ ls.take (k + 1), 1 ≤ p.length ∧ p.length ≤ 4000) := by
        intro h1 h2 p hp
        rw [List.take_succ_eq_append_getElem hkl] at hp
        rcases List.mem_append.1 hp with hp | hp
        · exact HAll.out p hp
        · simp at hp; subst hp; rw [hlk]; exact ⟨h1, by omega⟩
      rw [hlk] at HF
      clear hlk
      generalize L[k] = x at *
      generalize adr a k = A at *
      by_cases q1 : x.n < 1
      · have g1 : decide ((x.n : Int) < 1) = true := decide_eq_true (by omega)
        go_wp2
        go_ret
        exact ⟨rfl, Sk.fin⟩
      have g1 : decide ((x.n : Int) < 1) = false := decide_eq_false (by omega)
      by_cases q2 : 200 < x.n
      · have g2 : decide ((200 : Int) < (x.n : Int)) = true := decide_eq_true (by omega)
        go_wp2
        go_ret
        exact ⟨rfl, Sk.fin⟩
      have g2 : decide ((200 : Int) < (x.n : Int)) = false := decide_eq_false (by omega)
      have hfl := frame_le x.l (by rw [HX.out.1.len]; omega)
      obtain ⟨N, hN⟩ : ∃ N, (frameB x.l).length = N := ⟨_, rfl⟩
      rw [hN] at hfl
      have HL := hid hN
      clear hN
      go_wp2_with fail
      refine (frPut_any x.a x.l x.n x.c wr HX.out.1.len (by unfold maxLen; omega) HX.out.1.le HX.out.1.nil (by exact Sk.old HX.out.2)).mono ?_
      rintro e w3 ⟨a3, c3, rfl, ho3, hb3⟩
      rw [HL.out] at ho3
      rw [HL.out]
      have S3 := Sk.bytes ho3 hb3
      clear ho3 hb3
      go_wp2_with (at_builtin; refine wpList_app (by rfl) (.tmp 44) (.tmp 49) 30 30 30 rfl rfl _ _ rfl rfl (S3.app 0 rfl a3 (frameB x.l) N c3 HL.out (by exact S3.at 1 rfl) (T + N) (by rw [HT.out]) (by omega)) ?_; rintro v4 w4 ⟨⟨a4, c4, rfl⟩, S4⟩)
      go_roundw
      case rel => exact ⟨k + 1, T + N, a4, c4, by omega, rfl, by go_num, by omega, HAl2.out (by rw [HX.out.1.len]; omega) (by rw [HX.out.1.len]; omega), St.conv (S4.take 1) (by rw [HF.out]; rfl)⟩
      case measure => simp [intOf]; omega
    · have ek : Hid (ls.take k = ls) := List.take_of_length_le (by rw [HLn.out]; omega)
      rw [ek.out] at Sk HAll HT
      clear ek
      have hT2 : T ≤ 6390 := by omega
      go_wp2_with (at_builtin; refine wpList_app (by rfl) (.tmp 53) (.tmp 54) 30 30 30 rfl rfl _ _ rfl rfl (Sk.app 0 rfl b m j cb HJ.out (by exact Sk.old hB) (T + j) (by rw [HT.out]) (by omega)) ?_; rintro v4 w4 ⟨⟨a4, c4, rfl⟩, S4⟩)
      obtain ⟨F, hF⟩ : ∃ F, ls.flatMap frameB ++ m = F := ⟨_, rfl⟩
      have HFn : Hid (F.length = T + j) := by rw [Hid, ← hF, List.length_append, HT.out, HJ.out]
      have hfull := all_frames ls [] m 0 [] HAll.out (AllAt.start _ _)
      rw [List.nil_append, List.nil_append, List.nil_append, hF, HT.out] at hfull
      obtain ⟨f, e1, e2⟩ := hfull.some_
      have he := fAllF_end f F (T : Int) (by omega) (by rw [HFn.out]; omega) (by omega)
      obtain ⟨rest, hrest⟩ : ∃ r, (fAllF f F (T : Int)).1 = r := ⟨_, rfl⟩
      obtain ⟨en, hen⟩ : ∃ r, (fAllF f F (T : Int)).2 = r := ⟨_, rfl⟩
      rw [hrest, hen] at e1
      rw [hen, HFn.out] at he
      have HR := hid e1
      have HEn := hid he.2.2
      have he1 := he.1
      have he2 := he.2.1
      have hGl : ls.length ≤ (ls ++ rest).length := by simp
      have S5 : St w w4 [bytesT (.slice a4 (T + j) c4) F] := St.conv S4 (by rw [hF]; rfl)
      clear hfull e1 e2 he hrest hen hF
      have hc4 := (S5.slA 0 rfl).2.1
      refine (frAll_any a4 F (T + j) c4 0 w4 HFn.out (by omega) hc4 (by exact S5.at 0 rfl) (by omega) (by omega)).mono ?_
      rintro e w5 ⟨a5, c5, ys, rfl, hys, hhd, T5⟩
      rw [HR.out] at hys T5 ⊢
      have S6 := S5.grow T5.fin
      have A6 := hid (T5.rowsAt eSok 0 rfl)
      have HY := hid (And.intro hys hhd)
      clear hys hhd T5
      obtain ⟨G, hG⟩ : ∃ G, (ls ++ rest).length = G := ⟨_, rfl⟩
      simp only [] at A6
      simp only []
      rw [hG] at A6 hGl
      rw [hG]
      rw [HLn.out] at hGl
      have HGn := hid hG
      clear hG
      have g1 : decide (en < (T : Int)) = false := decide_eq_false (by omega)
      have g2 : decide (G < n) = false := decide_eq_false (by omega)
      have g3 : decide (((T + j : Nat) : Int) < en) = false := decide_eq_false (by omega)
      have g3' : decide ((T : Int) + (j : Int) < en) = false := decide_eq_false (by omega)
      go_wp2_with fail
      go_loopw [10] (fun i wr => ∃ k : Nat, k ≤ n ∧ i = .int .i64 k ∧ Below w5.heap.size w5 wr) (fun i _ => n - (intOf i).toNat)
      case atStart => exact ⟨0, Nat.zero_le _, rfl, Below.refl _ _⟩
      case round =>
        obtain ⟨k, hk, rfl, hbl⟩ := hrel
        have HBl := hid hbl
        clear hbl
        by_cases hlt : k < n
        · have hkL : k < L.length := by rw [HN.out]; exact hlt
          have hyl : ys.length = G := A6.out.1
          have hkY : k < ys.length := by omega
          have i1 := fun wx => idxS a5 G c5 (fun h => A6.out.2.2.2.2.1.ok (by omega)) k k rfl (by omega) wx
          have i2 := fun wx => idxS a n ca (fun h => HA.out.ok (by rw [HN.out]; exact h)) k k rfl hlt wx
          have HC : Hid (∀ w', Below w5.heap.size w5 w' → w'.cell? (adr a5 k) = some (.slice ys[k].a ys[k].n ys[k].c) ∧ w'.cell? (adr a k) = some (.slice L[k].a L[k].n L[k].c)) := fun w' h => ⟨(A6.out.2.2.2.2.1.all eSok h).cellS hkY, ((HA.out.all eSok S6.fin).all eSok h).cellS hkL⟩
          have hx1 := HOk.out _ (List.getElem_mem hkL)
          have HX1 := hid (⟨hx1.1, (S6.old hx1.2).all HBl.out⟩ : BS.Hd L[k] ∧ At wr L[k].a L[k].l)
          have HY1 := hid (⟨HY.out.2 _ (List.getElem_mem hkY), (A6.out.2.2.2.2.2 _ (List.getElem_mem hkY) _ (List.mem_singleton.2 rfl)).all HBl.out⟩ : BS.Hd ys[k] ∧ At wr ys[k].a ys[k].l)
          have HT2 : Hid ((ys[k].l == L[k].l) = true) := by
            rw [Hid, beq_iff_eq]
            have e1 : (ys.map BS.l)[k]? = (ls ++ rest)[k]? := by rw [HY.out.1]
            rw [List.getElem?_map, List.getElem?_eq_getElem hkY, List.getElem?_append_left (by rw [HLn.out]; exact hlt), ← HLs.out, List.getElem?_map, List.getElem?_eq_getElem hkL] at e1
            simpa using e1
          clear hx1 hyl
          generalize ys[k] = y at *
          generalize L[k] = x at *
          generalize adr a k = A at *
          generalize adr a5 k = D at *
          go_wp2_with fail
          refine wp_region_held_drew (S := (fun w' => w'.cell? D = some (.slice y.a y.n y.c) ∧ w'.cell? A = some (.slice x.a x.n x.c))) (by kernel_rfl) (by exact HC.out _ (below_drewN HBl.out 1)) (fun hHeld => ?_)
          change wpAnyH _ _ _ _ _ 10 (Array.replicate 10 false) _ _
          refine wpAnyH_take (i := 0) (v := ?v1) (ops_at rfl) (by kernel_rfl) (by kernel_rfl) (by kernel_rfl) (fun _ _ _ h => h) (Or.inl ⟨by rfl, ?hy1⟩) (by assumption) ?rest1
          case hy1 => intro w' hSw; (try dsimp only at hSw); go_simp; try with_reducible rfl
          try simp only [Act.put, List.setIfInBounds_toArray, List.set_cons_zero, List.set_cons_succ]
          refine wpAnyH_take (i := 1) (v := ?v2) (ops_at rfl) (by kernel_rfl) (by kernel_rfl) (by kernel_rfl) (fun _ _ _ h => h) (Or.inl ⟨by rfl, ?hy2⟩) (by assumption) ?rest2
          case hy2 => intro w' hSw; (try dsimp only at hSw); go_simp; try with_reducible rfl
          try simp only [Act.put, List.setIfInBounds_toArray, List.set_cons_zero, List.set_cons_succ]
          refine wpAnyH_take (i := 2) (v := ?v3) (ops_at rfl) (by kernel_rfl) (by kernel_rfl) (by kernel_rfl) (fun _ _ _ h => h) (Or.inl ⟨by rfl, ?hy3⟩) (by assumption) ?rest3
          case hy3 => intro w' hSw; (try dsimp only at hSw); go_simp; try with_reducible rfl
          try simp only [Act.put, List.setIfInBounds_toArray, List.set_cons_zero, List.set_cons_succ]
          refine wpAnyH_take (i := 3) (v := ?v4) (ops_at rfl) (by kernel_rfl) (by kernel_rfl) (by kernel_rfl) (fun _ _ _ h => h) (Or.inl ⟨by rfl, ?hy4⟩) (by assumption) ?rest4
          case hy4 => intro w' hSw; (try dsimp only at hSw); go_simp; try with_reducible rfl
          try simp only [Act.put, List.setIfInBounds_toArray, List.set_cons_zero, List.set_cons_succ]
          refine wpAnyH_take (i := 4) (v := ?v5) (ops_at rfl) (by kernel_rfl) (by kernel_rfl) (by kernel_rfl) (fun _ _ _ h => h) (Or.inl ⟨by rfl, ?hy5⟩) (by assumption) ?rest5
          case hy5 => intro w' hSw; (try dsimp only at hSw); go_simp; try with_reducible rfl
          try simp only [Act.put, List.setIfInBounds_toArray, List.set_cons_zero, List.set_cons_succ]
          refine wpAnyH_take (i := 5) (v := ?v6) (ops_at rfl) (by kernel_rfl) (by kernel_rfl) (by kernel_rfl) (fun _ _ _ h => h) (Or.inl ⟨by rfl, ?hy6⟩) (by assumption) ?rest6
          case hy6 => intro w' hSw; (try dsimp only at hSw); go_simp; try with_reducible rfl
          try simp only [Act.put, List.setIfInBounds_toArray, List.set_cons_zero, List.set_cons_succ]
          refine wpAnyH_take (i := 6) (v := ?v7) (ops_at rfl) (by kernel_rfl) (by kernel_rfl) (by kernel_rfl) (fun _ _ _ h => h) (Or.inl ⟨by rfl, ?hy7⟩) (by assumption) ?rest7
          case hy7 => intro w' hSw; (try dsimp only at hSw); go_simp; try with_reducible rfl
          try simp only [Act.put, List.setIfInBounds_toArray, List.set_cons_zero, List.set_cons_succ]
          refine wpAnyH_take (i := 7) (v := ?v8) (ops_at rfl) (by kernel_rfl) (by kernel_rfl) (by kernel_rfl) (fun _ _ _ h => h) (Or.inl ⟨by rfl, ?hy8⟩) (by assumption) ?rest8
          case hy8 => intro w' hSw; (try dsimp only at hSw); go_simp; try with_reducible rfl
          try simp only [Act.put, List.setIfInBounds_toArray, List.set_cons_zero, List.set_cons_succ]
          refine wpAnyH_ready (rs := [8]) (by kernel_rfl) (by simp) ?_
          refine AllReadyH.cons (ops_at rfl) (fun K hK => ?_) AllReadyH.nil
          go_simp
          refine (bytes_any y.a x.a y.l x.l y.n x.n y.c x.c _ HY1.out.1.len HX1.out.1.len (Nat.le_trans HY1.out.1.le HY1.out.1.big) (Nat.le_trans HX1.out.1.le HX1.out.1.big) (by exact HY1.out.2) (by exact HX1.out.2)).mono ?_
          rintro e w6 ⟨rfl, n6, rfl⟩
          rw [HT2.out]
          have HB2 : Hid (Below w5.heap.size w5 (wr.drew.drewN n6)) := below_drewN (below_drewN HBl.out 1) n6
          have HB3 : Hid (Below w5.heap.size w5 (wr.drewN (1 + n6))) := below_drewN HBl.out (1 + n6)
          refine hK.out _ _ (by exact HC.out _ HB2.out) (fun hHeld => ?_)
          clear hK K
          try simp only [Act.put, List.setIfInBounds_toArray, List.set_cons_zero, List.set_cons_succ]
          refine wpAnyH_take (i := 9) (v := ?v10) (ops_at rfl) (by kernel_rfl) (by kernel_rfl) (by kernel_rfl) (fun _ _ _ h => h) (Or.inl ⟨by rfl, ?hy10⟩) (by assumption) ?rest10
          case hy10 => intro w' hSw; (try dsimp only at hSw); go_simp; try with_reducible rfl
          try simp only [Act.put, List.setIfInBounds_toArray, List.set_cons_zero, List.set_cons_succ]
          refine wpAnyH_done (by kernel_rfl) ?_ _
          go_wp2
          go_roundw
          case rel => exact ⟨k + 1, by omega, by go_num, HB3.out⟩
          case measure => simp [intOf]; omega
        · have S7 := S6.grow HBl.out
          go_wp2_with fail
          refine (frGet_any a4 F (T + j) c4 en wr HFn.out (by omega) hc4 (by exact S7.at 0 rfl)).mono ?_
          rintro e w8 ⟨⟨a8, c8, rfl, ho8⟩, hb8⟩
          have S8 := S7.grow hb8
          have g9 : ((fGet F en).2.2 != 1) = true := by simpa using HEn.out
          clear ho8 hb8
          generalize fGet F en = r at *
          go_wp2
          go_ret
          exact ⟨rfl, S8.fin⟩

end Go.Proofs.Ytbdclgopdildmaa
