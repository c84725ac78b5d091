/- LogActs. -/
import Derived.Test.YtkkailggpfmgaaaLogLaw
import Derived.Test.YtkkailggpfmgaaaLogActs
import Derived.Test.YtkkailggpfmgaaaLogRel
namespace Go.Proofs.Ytkkailggpfmgaaa
set_option linter.unusedVariables false
set_option linter.unusedSimpArgs false
open Go.RowKit

set_option maxRecDepth 10000 in
set_option maxHeartbeats 12800000 in
theorem logActs_main (n : Nat) (h1 : 1 ≤ n) (h2 : n ≤ 400) (fr sz : Int) (hf0 : -9223372036854775808 ≤ fr) (hf1 : fr ≤ 9223372036854775807) (hz0 : -9223372036854775808 ≤ sz) (hz1 : sz ≤ 9223372036854775807) (a : Option Addr) (L : List LAct) (m cap : Nat) (w : World) (hm : L.length = m) (hm1 : m ≤ maxLen) (hA : AtG eLA w a L) (hok : ∀ x ∈ L, LAct.Ok w x) (hf : few5 L = true) :
    Calls Try.prog 10 #[.int .i64 n, .int .i64 fr, .int .i64 sz, .slice a m cap] w fun e w' => e = .returned (.bool true) ∧ Below w.heap.size w w' := by
  have k1 := fun (w : World) => Lib.run_convert_bytes_const (P := Try.prog) w 32 5 #[.int .u8 97] 1 1 sliceB u8T
  unfold maxLen at hm1
  have HM := hid hm
  have HA := hid hA
  have HOk := hid hok
  have HF := hid hf
  have hfw := hf
  unfold few5 at hfw
  rw [Bool.and_eq_true, decide_eq_true_iff, List.all_eq_true, hm] at hfw
  have HF2 := hid hfw.2
  have hm60 := hfw.1
  have S0 := St.start w
  have HNw := hid (DiskRel.new h2)
  clear hm hA hok hf hfw
  go_enter Try.func10, Try.ntmps10
  go_wp2_with fail
  refine (alive5_any _).mono ?_
  rintro e w1 ⟨rfl, hb1⟩
  have S1 := S0.grow hb1
  go_wp2_with fail
  refine (few5_any a L m cap w1 HM.out (by unfold maxLen; omega) (by exact HA.out.all eLAok hb1)).mono ?_
  rintro e w2 ⟨rfl, rfl⟩
  rw [HF.out]
  clear hb1
  go_wp2_with fail
  refine (hnew S1 n h1 (by omega)).mono ?_
  rintro e w2 ⟨pd, rfl, S2, -⟩
  go_wp2_with fail
  refine (rdnew_any S2 n (by omega)).mono ?_
  rintro e w3 ⟨pr, rfl, S3, -⟩
  by_cases hbad : fr < 0 ∨ sz < 1 ∨ (n : Int) < sz ∨ (n : Int) - sz < fr
  · have HBad := hid hbad
    clear hbad
    go_wp2_with fail
    refine (logOpen_no (by exact S3.swap) fr sz hz0 hz1 (by simpa [DSt.new] using HBad.out)).mono ?_
    rintro e w4 ⟨rfl, rfl⟩
    go_wp2_with fail
    refine (rOpen_no S3 fr sz hz0 hz1 (by have := HBad.out; simp only [List.length_replicate]; omega)).mono ?_
    rintro e w4 ⟨rfl, rfl⟩
    go_wp2_with fail
    refine (logClear_nil _).mono ?_
    rintro e w4 ⟨rfl, rfl⟩
    go_wp2_with fail
    refine (logPut_nil _ _ _ _).mono ?_
    rintro e w4 ⟨rfl, rfl⟩
    go_wp2_with fail
    refine (logApp_nil _ _ _ _).mono ?_
    rintro e w4 ⟨rfl, rfl⟩
    go_wp2_with fail
    refine (logUsed_nil _).mono ?_
    rintro e w4 ⟨rfl, rfl⟩
    go_wp2_with fail
    refine (logRoom_nil _ _).mono ?_
    rintro e w4 ⟨rfl, hb4⟩
    go_wp2
    go_ret
    exact ⟨rfl, ((S3.alloc _).grow hb4).fin⟩
  obtain ⟨fr, rfl⟩ := Int.eq_ofNat_of_zero_le (show 0 ≤ fr by omega)
  obtain ⟨sz, rfl⟩ := Int.eq_ofNat_of_zero_le (show 0 ≤ sz by omega)
  have hsz : 1 ≤ sz := by omega
  have hr : fr + sz ≤ n := by omega
  clear hbad k1 hf0 hf1 hz0 hz1
  obtain ⟨ps0, u0, e01, e02, e03, e04⟩ := logOpen_rel (by exact S3.swap) HNw.out hsz hr (by omega)
  have hps0 : ps0 = [] := by
    have hb : (⟨List.replicate n 0, [], 0⟩ : RD).bytes = List.replicate n 0 := rfl
    have e : piece (List.replicate n (0 : UInt8)) fr sz = List.replicate sz 0 := by
      unfold piece
      rw [List.drop_replicate, List.take_replicate]
      congr 1; omega
    rw [hb, e] at e01
    have := fAll_frames (ps := []) (X := List.replicate sz 0) (by simp) (by rw [fGet_zeros]; simp)
    simp only [List.flatMap_nil, List.nil_append] at this
    rw [this] at e01
    injection e01 with e01 _
    exact e01.symm
  go_wp2_with fail
  refine e04.mono ?_
  rintro e w4 ⟨g0, a4, c4, qs0, d0, rfl, -, -, hR0, S4⟩
  go_wp2_with fail
  refine (rOpen_yes (by exact S4.front 3 rfl) fr sz hsz (by simp only [List.length_replicate]; exact hr) (by simp) (by simp) e03 e01 e02).mono ?_
  rintro e w5 ⟨h0, a5, c5, xs0, rfl, hxs0, hxd0, S5⟩
  subst hps0
  obtain ⟨r0, hr0⟩ : ∃ r, (⟨List.replicate n 0, [], 0⟩ : RD).nought fr sz u0 = r := ⟨_, rfl⟩
  rw [hr0] at hR0 S5
  rw [← hxs0] at hR0
  have HR0 := hid hR0
  have HX0 := hid hxd0
  have S6 : St w w5 [cellsT g0 81 (logC pd fr sz u0), diskT pd d0, cellsT h0 69 (rlogC pr fr sz (.slice a5 xs0.length c5)), rdT pr r0, rowsT eS bsRefs (.slice a5 xs0.length c5) xs0] :=
    ((S5.front 4 rfl).front 4 rfl).take 5
  clear hr0 hR0 hxs0 hxd0 e01 e02 e03 e04 S4 S5 S3 S2 HNw
  go_wp2_with fail
  go_loopw [11, 14, 16] (fun l q i wr => ∃ (k u g h : Nat) (d : DSt) (r : RD) (xs : List BS) (aL : Option Addr) (cL : Nat), k ≤ m ∧ l = .pointer (some ⟨g, 0, none⟩) ∧ q = .pointer (some ⟨h, 0, none⟩) ∧ i = .int .i64 k ∧ (∀ x ∈ xs, BS.Hd x) ∧ LogRel d r fr sz u (xs.map BS.l) n (1 + 2 * k) ∧ St w wr [cellsT g 81 (logC pd fr sz u), diskT pd d, cellsT h 69 (rlogC pr fr sz (.slice aL xs.length cL)), rdT pr r, rowsT eS bsRefs (.slice aL xs.length cL) xs]) (fun _ _ i _ => m - (intOf i).toNat)
  case atStart => exact ⟨0, u0, g0, h0, d0, r0, xs0, a5, c5, Nat.zero_le _, rfl, rfl, rfl, HX0.out, HR0.out, S6⟩
  case round =>
    obtain ⟨k, u, g, h, d, r, xs, aL, cL, hk, rfl, rfl, rfl, hxs, hR, Sk⟩ := hrel
    have HXs := hid hxs
    have HR := hid hR
    clear hxs hR
    by_cases hlt : k < m
    case neg =>
      go_wp2
      go_ret
      exact ⟨rfl, Sk.fin⟩
    have hkl : k < L.length := by rw [HM.out]; exact hlt
    have i0 := fun wx => idxLA a m cap (fun h => HA.out.ok (by rw [HM.out]; exact h)) k k rfl hlt wx
    have HEl : Hid (∀ w', Below w.heap.size w w' → _ ∧ _ ∧ _) := fun w' hb => (HA.out.all eLAok hb).cellL hkl
    have HX := hid (HOk.out _ (List.getElem_mem hkl))
    have HX3 := HF2.out _ (List.getElem_mem hkl)
    rw [decide_eq_true_iff] at HX3
    generalize L[k] = x at *
    generalize adr a (k * 3) = A at *
    obtain ⟨y0, y1, y2⟩ := HEl.out _ Sk.fin
    have S5 : St w (wr.alloc (.cells #[.int .i64 x.kind, .int .i64 x.keep, .slice x.a x.n x.c] 34)) [cellsT g 81 (logC pd fr sz u), diskT pd d, cellsT h 69 (rlogC pr fr sz (.slice aL xs.length cL)), rdT pr r, rowsT eS bsRefs (.slice aL xs.length cL) xs, cellsT wr.heap.size 34 [.int .i64 x.kind, .int .i64 x.keep, .slice x.a x.n x.c]] := Sk.newCells _ _
    have hlen := HX.out.len
    have lw := HR.out.waits
    have ls := HR.out.syncs
    have ll := HR.out.len
    have lle := HR.out.inv.le
    have lps := HR.out.psLen
    have lpn := HR.out.psNum
    have lsr : r.syncs = d.syncs := HR.out.rel.syncs
    rw [List.length_map] at lpn
    have HOk5 := hid (show ∀ y ∈ xs, y.l.length ≤ 4000 from fun y hy => (HR.out.inv.ok _ (List.mem_map_of_mem hy)).2)
    have HU5 := hid HR.out.inv.len_
    by_cases hk0 : x.kind = 0
    · have g0' : (x.kind == 0) = true := by simpa using hk0
      clear hk0
      have hap := HR.out.app x.b
      obtain ⟨LA, hLA⟩ : ∃ LA, logApp d fr sz u x.b = LA := ⟨_, rfl⟩
      obtain ⟨RP, hRP⟩ : ∃ RP, rlogPut fr sz r (xs.map BS.l) x.b = RP := ⟨_, rfl⟩
      rw [hLA, hRP] at hap
      have tq : (LA.1 != RP.1) = false := by rw [hap.1]; simp
      have HAp := hid hap.2
      have HLA := hid hLA
      have HRP := hid hRP
      clear hap hLA hRP
      go_wp2_with fail
      refine wp_region_held_drew (S := (fun w' => w'.cell? ⟨wr.heap.size, 2, none⟩ = some (.slice x.a x.n x.c))) (by kernel_rfl) (by exact S5.drew.cell 5 rfl 2 rfl) (fun hHeld => ?_)
      change wpAnyH _ _ _ _ _ 9 (Array.replicate 9 false) _ _
      refine wpAnyH_take (i := 0) (v := ?v1) (ops_at rfl) (by kernel_rfl) (by kernel_rfl) (by kernel_rfl) (fun _ _ _ h => h) (Or.inl ⟨by rfl, ?hy1⟩) (by assumption) ?rest1
      case hy1 => intro w' hSw; (try dsimp only at hSw); go_simp; try with_reducible rfl
      try simp only [Act.put, List.setIfInBounds_toArray, List.set_cons_zero, List.set_cons_succ]
      refine wpAnyH_take (i := 1) (v := ?v2) (ops_at rfl) (by kernel_rfl) (by kernel_rfl) (by kernel_rfl) (fun _ _ _ h => h) (Or.inl ⟨by rfl, ?hy2⟩) (by assumption) ?rest2
      case hy2 => intro w' hSw; (try dsimp only at hSw); go_simp; try with_reducible rfl
      try simp only [Act.put, List.setIfInBounds_toArray, List.set_cons_zero, List.set_cons_succ]
      refine wpAnyH_take (i := 2) (v := ?v3) (ops_at rfl) (by kernel_rfl) (by kernel_rfl) (by kernel_rfl) (fun _ _ _ h => h) (Or.inl ⟨by rfl, ?hy3⟩) (by assumption) ?rest3
      case hy3 => intro w' hSw; (try dsimp only at hSw); go_simp; try with_reducible rfl
      try simp only [Act.put, List.setIfInBounds_toArray, List.set_cons_zero, List.set_cons_succ]
      refine wpAnyH_take (i := 4) (v := ?v4) (ops_at rfl) (by kernel_rfl) (by kernel_rfl) (by kernel_rfl) (fun _ _ _ h => h) (Or.inl ⟨by rfl, ?hy4⟩) (by assumption) ?rest4
      case hy4 => intro w' hSw; (try dsimp only at hSw); go_simp; try with_reducible rfl
      try simp only [Act.put, List.setIfInBounds_toArray, List.set_cons_zero, List.set_cons_succ]
      refine wpAnyH_take (i := 5) (v := ?v5) (ops_at rfl) (by kernel_rfl) (by kernel_rfl) (by kernel_rfl) (fun _ _ _ h => h) (Or.inl ⟨by rfl, ?hy5⟩) (by assumption) ?rest5
      case hy5 => intro w' hSw; (try dsimp only at hSw); go_simp; try with_reducible rfl
      try simp only [Act.put, List.setIfInBounds_toArray, List.set_cons_zero, List.set_cons_succ]
      refine wpAnyH_take (i := 6) (v := ?v6) (ops_at rfl) (by kernel_rfl) (by kernel_rfl) (by kernel_rfl) (fun _ _ _ h => h) (Or.inl ⟨by rfl, ?hy6⟩) (by assumption) ?rest6
      case hy6 => intro w' hSw; (try dsimp only at hSw); go_simp; try with_reducible rfl
      try simp only [Act.put, List.setIfInBounds_toArray, List.set_cons_zero, List.set_cons_succ]
      refine wpAnyH_ready (rs := [3]) (by kernel_rfl) (by simp) ?_
      refine AllReadyH.cons (ops_at rfl) (fun K hK => ?_) AllReadyH.nil
      go_simp
      have hA3 := logApp_any (by exact S5.drew) x.a x.b x.n x.c hlen (by unfold maxLen; omega) HX.out.le HX.out.nil (Reads.old HX.out.isAt) (by omega) lle (by omega) (by omega)
      rw [HLA.out] at hA3
      refine hA3.mono ?_
      rintro e w10 ⟨rfl, T10⟩
      clear hA3
      refine hK.out _ _ (by exact T10.cell 5 rfl 2 rfl) (fun hHeld => ?_)
      clear hK K
      try simp only [Act.put, List.setIfInBounds_toArray, List.set_cons_zero, List.set_cons_succ]
      refine wpAnyH_ready (rs := [7]) (by kernel_rfl) (by simp) ?_
      refine AllReadyH.cons (ops_at rfl) (fun K hK => ?_) AllReadyH.nil
      go_simp
      have hA3 := rApp_any (by exact ((T10.front 4 rfl).front 4 rfl).front 4 rfl) x.a x.b x.n x.c hlen (by omega) HX.out.le HX.out.nil (Reads.old HX.out.isAt) HXs.out HOk5.out (by rw [HU5.out]; omega) (by omega) (by omega) (by omega) (by omega)
      rw [HRP.out] at hA3
      refine hA3.mono ?_
      rintro e w11 ⟨ys9, aY9, cY9, rfl, hys, hyd, T11⟩
      clear hA3
      refine hK.out _ _ (by exact T11.cell 5 rfl 2 rfl) (fun hHeld => ?_)
      clear hK K
      try simp only [Act.put, List.setIfInBounds_toArray, List.set_cons_zero, List.set_cons_succ]
      refine wpAnyH_take (i := 8) (v := ?v9) (ops_at rfl) (by kernel_rfl) (by kernel_rfl) (by kernel_rfl) (fun _ _ _ h => h) (Or.inl ⟨by rfl, ?hy9⟩) (by assumption) ?rest9
      case hy9 => intro w' hSw; (try dsimp only at hSw); go_simp; try with_reducible rfl
      try simp only [Act.put, List.setIfInBounds_toArray, List.set_cons_zero, List.set_cons_succ]
      refine wpAnyH_done (by kernel_rfl) ?_ _
      have S9 : St w w11 [cellsT g 81 (logC pd fr sz LA.2.2), diskT pd LA.2.1, cellsT h 69 (rlogC pr fr sz (.slice aY9 ys9.length cY9)), rdT pr (if RP.1 = 0 then RP.2.1.sync else RP.2.1), rowsT eS bsRefs (.slice aY9 ys9.length cY9) ys9, cellsT wr.heap.size 34 [.int .i64 x.kind, .int .i64 x.keep, .slice x.a x.n x.c]] := (T11.front 4 rfl).front 4 rfl
      have hys' : ys9.map BS.l = RP.2.2 := hys
      have hR9 := HAp.out.le (j := 1 + 2 * (k + 1)) (by omega)
      rw [← hys'] at hR9
      obtain ⟨v9, hv9⟩ : ∃ v9, LA.2.2 = v9 := ⟨_, rfl⟩
      obtain ⟨d9, hd9⟩ : ∃ d9, LA.2.1 = d9 := ⟨_, rfl⟩
      obtain ⟨r9, hr9⟩ : ∃ r9, (if RP.1 = 0 then RP.2.1.sync else RP.2.1) = r9 := ⟨_, rfl⟩
      rw [hv9, hd9, hr9] at S9 hR9
      have R9 := hid hR9
      have HYs9 := hid hyd
      clear T10 T11 hys hys' hyd hR9 hv9 hd9 hr9
      by_cases h0 : x.n = 0
      · as_aux_lemma =>
          have q3 : decide ((0 : Int) < (x.n : Int)) = false := decide_eq_false (by omega)
          have q3n : decide (0 < x.n) = false := decide_eq_false (by omega)
          have HRm9 : Hid (roomB sz v9 (x.n : Int) = false) := by rw [Hid]; unfold roomB; rw [h0]; simp
          clear h0
          have lr := R9.out
          have hu9 := lr.inv.le
          have hr9 := lr.inv.room
          have hl9 := lr.len
          have hn9 := lr.few
          have hp9 := lr.psLen
          have hpn9 := lr.psNum
          rw [List.length_map] at hpn9
          have hw9 := lr.waits
          have hok9 : ∀ y ∈ ys9, y.l.length ≤ 4000 := fun y hy => (lr.inv.ok _ (List.mem_map_of_mem hy)).2
          have HOk9 := hid hok9
          have HU9 := hid lr.inv.len_
          have HB9 : Hid (d9.bytes = r9.bytes) := (lr.rel.bytes lr.inv.fit).symm
          have HBl9 : Hid (d9.bytes.length = n) := by rw [Hid, DSt.bytes, dAll_len _ _ lr.inv.fit]; exact lr.len
          have HRl9 : Hid (r9.b.length = n) := by rw [Hid, lr.rel.b]; exact lr.len
          clear hok9 lr
          have q1 : ((v9 : Int) != (v9 : Int)) = false := by simp
          have q2 : IntKind.i64.wrap ((sz : Int) - (v9 : Int)) = ((sz - v9 : Nat) : Int) := by rw [IntKind.wrap_i64]; omega
          go_wp2_with fail
          refine wp_region_held_drew (S := (fun w' => w'.cell? ⟨wr.heap.size, 2, none⟩ = some (.slice x.a x.n x.c))) (by kernel_rfl) (by exact S9.drew.cell 5 rfl 2 rfl) (fun hHeld => ?_)
          change wpAnyH _ _ _ _ _ 36 (Array.replicate 36 false) _ _
          refine wpAnyH_take (i := 0) (v := ?v10) (ops_at rfl) (by kernel_rfl) (by kernel_rfl) (by kernel_rfl) (fun _ _ _ h => h) (Or.inl ⟨by rfl, ?hy10⟩) (by assumption) ?rest10
          case hy10 => intro w' hSw; (try dsimp only at hSw); go_simp; try with_reducible rfl
          try simp only [Act.put, List.setIfInBounds_toArray, List.set_cons_zero, List.set_cons_succ]
          refine wpAnyH_take (i := 2) (v := ?v11) (ops_at rfl) (by kernel_rfl) (by kernel_rfl) (by kernel_rfl) (fun _ _ _ h => h) (Or.inl ⟨by rfl, ?hy11⟩) (by assumption) ?rest11
          case hy11 => intro w' hSw; (try dsimp only at hSw); go_simp; try with_reducible rfl
          try simp only [Act.put, List.setIfInBounds_toArray, List.set_cons_zero, List.set_cons_succ]
          refine wpAnyH_ready (rs := [1]) (by kernel_rfl) (by simp) ?_
          refine AllReadyH.cons (ops_at rfl) (fun K hK => ?_) AllReadyH.nil
          go_simp
          refine (logUsed_any S9.drew).mono ?_
          rintro e w21 ⟨rfl, rfl⟩
          refine hK.out _ _ (by exact S9.drew.cell 5 rfl 2 rfl) (fun hHeld => ?_)
          clear hK K
          try simp only [Act.put, List.setIfInBounds_toArray, List.set_cons_zero, List.set_cons_succ]
          refine wpAnyH_ready (rs := [3]) (by kernel_rfl) (by simp) ?_
          refine AllReadyH.cons (ops_at rfl) (fun K hK => ?_) AllReadyH.nil
          go_simp
          refine (rUsed_any (by exact (S9.drew.front 4 rfl).front 3 rfl) v9 HU9.out (by omega) HYs9.out HOk9.out).mono ?_
          rintro e w22 ⟨rfl, T2⟩
          refine hK.out _ _ (by exact T2.cell 5 rfl 2 rfl) (fun hHeld => ?_)
          clear hK K
          try simp only [Act.put, List.setIfInBounds_toArray, List.set_cons_zero, List.set_cons_succ]
          refine wpAnyH_take (i := 4) (v := ?v14) (ops_at rfl) (by kernel_rfl) (by kernel_rfl) (by kernel_rfl) (fun _ _ _ h => h) (Or.inl ⟨by rfl, ?hy14⟩) (by assumption) ?rest14
          case hy14 => intro w' hSw; (try dsimp only at hSw); go_simp; try with_reducible rfl
          try simp only [Act.put, List.setIfInBounds_toArray, List.set_cons_zero, List.set_cons_succ]
          refine wpAnyH_take (i := 5) (v := ?v15) (ops_at rfl) (by kernel_rfl) (by kernel_rfl) (by kernel_rfl) (fun _ _ _ h => h) (Or.inl ⟨by rfl, ?hy15⟩) (by assumption) ?rest15
          case hy15 => intro w' hSw; (try dsimp only at hSw); go_simp; try with_reducible rfl
          try simp only [Act.put, List.setIfInBounds_toArray, List.set_cons_zero, List.set_cons_succ]
          refine wpAnyH_take (i := 6) (v := ?v16) (ops_at rfl) (by kernel_rfl) (by kernel_rfl) (by kernel_rfl) (fun _ _ _ h => h) (Or.inl ⟨by rfl, ?hy16⟩) (by assumption) ?rest16
          case hy16 => intro w' hSw; (try dsimp only at hSw); go_simp; try with_reducible rfl
          try simp only [Act.put, List.setIfInBounds_toArray, List.set_cons_zero, List.set_cons_succ]
          refine wpAnyH_take (i := 8) (v := ?v17) (ops_at rfl) (by kernel_rfl) (by kernel_rfl) (by kernel_rfl) (fun _ _ _ h => h) (Or.inl ⟨by rfl, ?hy17⟩) (by assumption) ?rest17
          case hy17 => intro w' hSw; (try dsimp only at hSw); go_simp; try with_reducible rfl
          try simp only [Act.put, List.setIfInBounds_toArray, List.set_cons_zero, List.set_cons_succ]
          refine wpAnyH_ready (rs := [7]) (by kernel_rfl) (by simp) ?_
          refine AllReadyH.cons (ops_at rfl) (fun K hK => ?_) AllReadyH.nil
          go_simp
          refine (hbytes (by exact T2) 3 rfl (by omega) n HBl9.out).mono ?_
          rintro e w23 ⟨a23, c23, rfl, T3, -⟩
          refine hK.out _ _ (by exact T3.cell 5 rfl 2 rfl) (fun hHeld => ?_)
          clear hK K
          try simp only [Act.put, List.setIfInBounds_toArray, List.set_cons_zero, List.set_cons_succ]
          refine wpAnyH_ready (rs := [9]) (by kernel_rfl) (by simp) ?_
          refine AllReadyH.cons (ops_at rfl) (fun K hK => ?_) AllReadyH.nil
          go_simp
          refine (rdbytes_any (by exact T3.front 4 rfl) n HRl9.out (by omega)).mono ?_
          rintro e w24 ⟨a24, c24, rfl, T4, -⟩
          refine hK.out _ _ (by exact T4.cell 6 rfl 2 rfl) (fun hHeld => ?_)
          clear hK K
          try simp only [Act.put, List.setIfInBounds_toArray, List.set_cons_zero, List.set_cons_succ]
          refine wpAnyH_ready (rs := [10]) (by kernel_rfl) (by simp) ?_
          refine AllReadyH.cons (ops_at rfl) (fun K hK => ?_) AllReadyH.nil
          go_simp
          refine (hcmp T4 true a23 a24 d9.bytes r9.bytes n n c23 c24 (by rw [HB9.out]; simp) HBl9.out (by rw [← HB9.out]; exact HBl9.out) (by unfold maxLen; omega) (by unfold maxLen; omega) (by exact T4.at 7 rfl) (by exact T4.at 0 rfl)).mono ?_
          rintro e w25 ⟨rfl, T5, -⟩
          refine hK.out _ _ (by exact T5.cell 6 rfl 2 rfl) (fun hHeld => ?_)
          clear hK K
          try simp only [Act.put, List.setIfInBounds_toArray, List.set_cons_zero, List.set_cons_succ]
          refine wpAnyH_take (i := 11) (v := ?v21) (ops_at rfl) (by kernel_rfl) (by kernel_rfl) (by kernel_rfl) (fun _ _ _ h => h) (Or.inl ⟨by rfl, ?hy21⟩) (by assumption) ?rest21
          case hy21 => intro w' hSw; (try dsimp only at hSw); go_simp; try with_reducible rfl
          try simp only [Act.put, List.setIfInBounds_toArray, List.set_cons_zero, List.set_cons_succ]
          refine wpAnyH_take (i := 12) (v := ?v22) (ops_at rfl) (by kernel_rfl) (by kernel_rfl) (by kernel_rfl) (fun _ _ _ h => h) (Or.inl ⟨by rfl, ?hy22⟩) (by assumption) ?rest22
          case hy22 => intro w' hSw; (try dsimp only at hSw); go_simp; try with_reducible rfl
          try simp only [Act.put, List.setIfInBounds_toArray, List.set_cons_zero, List.set_cons_succ]
          refine wpAnyH_take (i := 13) (v := ?v23) (ops_at rfl) (by kernel_rfl) (by kernel_rfl) (by kernel_rfl) (fun _ _ _ h => h) (Or.inl ⟨by rfl, ?hy23⟩) (by assumption) ?rest23
          case hy23 => intro w' hSw; (try dsimp only at hSw); go_simp; try with_reducible rfl
          try simp only [Act.put, List.setIfInBounds_toArray, List.set_cons_zero, List.set_cons_succ]
          refine wpAnyH_take (i := 14) (v := ?v24) (ops_at rfl) (by kernel_rfl) (by kernel_rfl) (by kernel_rfl) (fun _ _ _ h => h) (Or.inl ⟨by rfl, ?hy24⟩) (by assumption) ?rest24
          case hy24 => intro w' hSw; (try dsimp only at hSw); go_simp; try with_reducible rfl
          try simp only [Act.put, List.setIfInBounds_toArray, List.set_cons_zero, List.set_cons_succ]
          refine wpAnyH_take (i := 15) (v := ?v25) (ops_at rfl) (by kernel_rfl) (by kernel_rfl) (by kernel_rfl) (fun _ _ _ h => h) (Or.inl ⟨by rfl, ?hy25⟩) (by assumption) ?rest25
          case hy25 => intro w' hSw; (try dsimp only at hSw); go_simp; try with_reducible rfl
          try simp only [Act.put, List.setIfInBounds_toArray, List.set_cons_zero, List.set_cons_succ]
          refine wpAnyH_take (i := 16) (v := ?v26) (ops_at rfl) (by kernel_rfl) (by kernel_rfl) (by kernel_rfl) (fun _ _ _ h => h) (Or.inl ⟨by rfl, ?hy26⟩) (by assumption) ?rest26
          case hy26 => intro w' hSw; (try dsimp only at hSw); go_simp; try with_reducible rfl
          try simp only [Act.put, List.setIfInBounds_toArray, List.set_cons_zero, List.set_cons_succ]
          refine wpAnyH_take (i := 17) (v := ?v27) (ops_at rfl) (by kernel_rfl) (by kernel_rfl) (by kernel_rfl) (fun _ _ _ h => h) (Or.inl ⟨by rfl, ?hy27⟩) (by assumption) ?rest27
          case hy27 => intro w' hSw; (try dsimp only at hSw); go_simp; try with_reducible rfl
          try simp only [Act.put, List.setIfInBounds_toArray, List.set_cons_zero, List.set_cons_succ]
          refine wpAnyH_take (i := 19) (v := ?v28) (ops_at rfl) (by kernel_rfl) (by kernel_rfl) (by kernel_rfl) (fun _ _ _ h => h) (Or.inl ⟨by rfl, ?hy28⟩) (by assumption) ?rest28
          case hy28 => intro w' hSw; (try dsimp only at hSw); go_simp; try with_reducible rfl
          try simp only [Act.put, List.setIfInBounds_toArray, List.set_cons_zero, List.set_cons_succ]
          refine wpAnyH_take (i := 20) (v := ?v29) (ops_at rfl) (by kernel_rfl) (by kernel_rfl) (by kernel_rfl) (fun _ _ _ h => h) (Or.inl ⟨by rfl, ?hy29⟩) (by assumption) ?rest29
          case hy29 => intro w' hSw; (try dsimp only at hSw); go_simp; try with_reducible rfl
          try simp only [Act.put, List.setIfInBounds_toArray, List.set_cons_zero, List.set_cons_succ]
          refine wpAnyH_take (i := 21) (v := ?v30) (ops_at rfl) (by kernel_rfl) (by kernel_rfl) (by kernel_rfl) (fun _ _ _ h => h) (Or.inl ⟨by rfl, ?hy30⟩) (by assumption) ?rest30
          case hy30 => intro w' hSw; (try dsimp only at hSw); go_simp; try with_reducible rfl
          try simp only [Act.put, List.setIfInBounds_toArray, List.set_cons_zero, List.set_cons_succ]
          refine wpAnyH_take (i := 22) (v := ?v31) (ops_at rfl) (by kernel_rfl) (by kernel_rfl) (by kernel_rfl) (fun _ _ _ h => h) (Or.inl ⟨by rfl, ?hy31⟩) (by assumption) ?rest31
          case hy31 => intro w' hSw; (try dsimp only at hSw); go_simp; try with_reducible rfl
          try simp only [Act.put, List.setIfInBounds_toArray, List.set_cons_zero, List.set_cons_succ]
          refine wpAnyH_ready (rs := [18]) (by kernel_rfl) (by simp) ?_
          refine AllReadyH.cons (ops_at rfl) (fun K hK => ?_) AllReadyH.nil
          go_simp
          refine (room_any (by exact T5.front 4 rfl) (x.n : Int) (by omega) (by omega)).mono ?_
          rintro e w26 ⟨rfl, T6, -⟩
          refine hK.out _ _ (by exact T6.cell 6 rfl 2 rfl) (fun hHeld => ?_)
          clear hK K
          try simp only [Act.put, List.setIfInBounds_toArray, List.set_cons_zero, List.set_cons_succ]
          rw [HRm9.out]
          refine wpAnyH_take (i := 23) (v := ?v33) (ops_at rfl) (by kernel_rfl) (by kernel_rfl) (by kernel_rfl) (fun _ _ _ h => h) (Or.inl ⟨by rfl, ?hy33⟩) (by assumption) ?rest33
          case hy33 => intro w' hSw; (try dsimp only at hSw); go_simp; try with_reducible rfl
          try simp only [Act.put, List.setIfInBounds_toArray, List.set_cons_zero, List.set_cons_succ]
          refine wpAnyH_take (i := 24) (v := undef) (ops_at rfl) (by kernel_rfl) (by kernel_rfl) (by kernel_rfl) (fun _ _ _ h => h) (Or.inr ⟨by rfl, rfl⟩) (by assumption) ?rest34
          try simp only [Act.put, List.setIfInBounds_toArray, List.set_cons_zero, List.set_cons_succ]
          refine wpAnyH_take (i := 25) (v := undef) (ops_at rfl) (by kernel_rfl) (by kernel_rfl) (by kernel_rfl) (fun _ _ _ h => h) (Or.inr ⟨by rfl, rfl⟩) (by assumption) ?rest35
          try simp only [Act.put, List.setIfInBounds_toArray, List.set_cons_zero, List.set_cons_succ]
          refine wpAnyH_take (i := 26) (v := undef) (ops_at rfl) (by kernel_rfl) (by kernel_rfl) (by kernel_rfl) (fun _ _ _ h => h) (Or.inr ⟨by rfl, rfl⟩) (by assumption) ?rest36
          try simp only [Act.put, List.setIfInBounds_toArray, List.set_cons_zero, List.set_cons_succ]
          refine wpAnyH_take (i := 27) (v := undef) (ops_at rfl) (by kernel_rfl) (by kernel_rfl) (by kernel_rfl) (fun _ _ _ h => h) (Or.inr ⟨by rfl, rfl⟩) (by assumption) ?rest37
          try simp only [Act.put, List.setIfInBounds_toArray, List.set_cons_zero, List.set_cons_succ]
          refine wpAnyH_take (i := 28) (v := undef) (ops_at rfl) (by kernel_rfl) (by kernel_rfl) (by kernel_rfl) (fun _ _ _ h => h) (Or.inr ⟨by rfl, rfl⟩) (by assumption) ?rest38
          try simp only [Act.put, List.setIfInBounds_toArray, List.set_cons_zero, List.set_cons_succ]
          refine wpAnyH_take (i := 29) (v := undef) (ops_at rfl) (by kernel_rfl) (by kernel_rfl) (by kernel_rfl) (fun _ _ _ h => h) (Or.inr ⟨by rfl, rfl⟩) (by assumption) ?rest39
          try simp only [Act.put, List.setIfInBounds_toArray, List.set_cons_zero, List.set_cons_succ]
          refine wpAnyH_take (i := 30) (v := undef) (ops_at rfl) (by kernel_rfl) (by kernel_rfl) (by kernel_rfl) (fun _ _ _ h => h) (Or.inr ⟨by rfl, rfl⟩) (by assumption) ?rest40
          try simp only [Act.put, List.setIfInBounds_toArray, List.set_cons_zero, List.set_cons_succ]
          refine wpAnyH_take (i := 31) (v := undef) (ops_at rfl) (by kernel_rfl) (by kernel_rfl) (by kernel_rfl) (fun _ _ _ h => h) (Or.inr ⟨by rfl, rfl⟩) (by assumption) ?rest41
          try simp only [Act.put, List.setIfInBounds_toArray, List.set_cons_zero, List.set_cons_succ]
          refine wpAnyH_take (i := 32) (v := undef) (ops_at rfl) (by kernel_rfl) (by kernel_rfl) (by kernel_rfl) (fun _ _ _ h => h) (Or.inr ⟨by rfl, rfl⟩) (by assumption) ?rest42
          try simp only [Act.put, List.setIfInBounds_toArray, List.set_cons_zero, List.set_cons_succ]
          refine wpAnyH_take (i := 33) (v := ?v43) (ops_at rfl) (by kernel_rfl) (by kernel_rfl) (by kernel_rfl) (fun _ _ _ h => h) (Or.inl ⟨by rfl, ?hy43⟩) (by assumption) ?rest43
          case hy43 => intro w' hSw; (try dsimp only at hSw); go_simp; try with_reducible rfl
          try simp only [Act.put, List.setIfInBounds_toArray, List.set_cons_zero, List.set_cons_succ]
          refine wpAnyH_take (i := 34) (v := ?v44) (ops_at rfl) (by kernel_rfl) (by kernel_rfl) (by kernel_rfl) (fun _ _ _ h => h) (Or.inl ⟨by rfl, ?hy44⟩) (by assumption) ?rest44
          case hy44 => intro w' hSw; (try dsimp only at hSw); go_simp; try with_reducible rfl
          try simp only [Act.put, List.setIfInBounds_toArray, List.set_cons_zero, List.set_cons_succ]
          refine wpAnyH_take (i := 35) (v := ?v45) (ops_at rfl) (by kernel_rfl) (by kernel_rfl) (by kernel_rfl) (fun _ _ _ h => h) (Or.inl ⟨by rfl, ?hy45⟩) (by assumption) ?rest45
          case hy45 => intro w' hSw; (try dsimp only at hSw); go_simp; try with_reducible rfl
          try simp only [Act.put, List.setIfInBounds_toArray, List.set_cons_zero, List.set_cons_succ]
          refine wpAnyH_done (by kernel_rfl) ?_ _
          go_wp2
          go_roundw
          case rel => exact ⟨k + 1, v9, _, _, d9, r9, ys9, aY9, cY9, by omega, rfl, rfl, by go_num, HYs9.out, R9.out, ((((T6.front 4 rfl).front 3 rfl).front 4 rfl).front 5 rfl |>.front 4 rfl).take 5⟩
          case measure => simp [intOf]; omega
      · as_aux_lemma =>
          have q3 : decide ((0 : Int) < (x.n : Int)) = true := decide_eq_true (by omega)
          have q3n : decide (0 < x.n) = true := decide_eq_true (by omega)
          have hfl := HX.out.len
          have HRm9' := room_is (p := x.b) (sz := sz) (u := v9) (by omega) (by omega) R9.out.inv.le
          rw [HX.out.len] at HRm9'
          obtain ⟨b9, hb9⟩ : ∃ b, roomB sz v9 (x.n : Int) = b := ⟨_, rfl⟩
          have q4 : decide (((frameB x.b).length : Int) ≤ ((sz - v9 : Nat) : Int)) = b9 := by rw [← hb9, HRm9']
          have q4n : decide ((frameB x.b).length ≤ sz - v9) = b9 := by rw [← q4, decide_eq_decide]; omega
          have HRm9 := hid hb9
          have q5 : (b9 != b9) = false := by simp
          clear h0 hfl HRm9' hb9
          have lr := R9.out
          have hu9 := lr.inv.le
          have hr9 := lr.inv.room
          have hl9 := lr.len
          have hn9 := lr.few
          have hp9 := lr.psLen
          have hpn9 := lr.psNum
          rw [List.length_map] at hpn9
          have hw9 := lr.waits
          have hok9 : ∀ y ∈ ys9, y.l.length ≤ 4000 := fun y hy => (lr.inv.ok _ (List.mem_map_of_mem hy)).2
          have HOk9 := hid hok9
          have HU9 := hid lr.inv.len_
          have HB9 : Hid (d9.bytes = r9.bytes) := (lr.rel.bytes lr.inv.fit).symm
          have HBl9 : Hid (d9.bytes.length = n) := by rw [Hid, DSt.bytes, dAll_len _ _ lr.inv.fit]; exact lr.len
          have HRl9 : Hid (r9.b.length = n) := by rw [Hid, lr.rel.b]; exact lr.len
          clear hok9 lr
          have q1 : ((v9 : Int) != (v9 : Int)) = false := by simp
          have q2 : IntKind.i64.wrap ((sz : Int) - (v9 : Int)) = ((sz - v9 : Nat) : Int) := by rw [IntKind.wrap_i64]; omega
          go_wp2_with fail
          refine wp_region_held_drew (S := (fun w' => w'.cell? ⟨wr.heap.size, 2, none⟩ = some (.slice x.a x.n x.c))) (by kernel_rfl) (by exact S9.drew.cell 5 rfl 2 rfl) (fun hHeld => ?_)
          change wpAnyH _ _ _ _ _ 36 (Array.replicate 36 false) _ _
          refine wpAnyH_take (i := 0) (v := ?v46) (ops_at rfl) (by kernel_rfl) (by kernel_rfl) (by kernel_rfl) (fun _ _ _ h => h) (Or.inl ⟨by rfl, ?hy46⟩) (by assumption) ?rest46
          case hy46 => intro w' hSw; (try dsimp only at hSw); go_simp; try with_reducible rfl
          try simp only [Act.put, List.setIfInBounds_toArray, List.set_cons_zero, List.set_cons_succ]
          refine wpAnyH_take (i := 2) (v := ?v47) (ops_at rfl) (by kernel_rfl) (by kernel_rfl) (by kernel_rfl) (fun _ _ _ h => h) (Or.inl ⟨by rfl, ?hy47⟩) (by assumption) ?rest47
          case hy47 => intro w' hSw; (try dsimp only at hSw); go_simp; try with_reducible rfl
          try simp only [Act.put, List.setIfInBounds_toArray, List.set_cons_zero, List.set_cons_succ]
          refine wpAnyH_ready (rs := [1]) (by kernel_rfl) (by simp) ?_
          refine AllReadyH.cons (ops_at rfl) (fun K hK => ?_) AllReadyH.nil
          go_simp
          refine (logUsed_any S9.drew).mono ?_
          rintro e w21 ⟨rfl, rfl⟩
          refine hK.out _ _ (by exact S9.drew.cell 5 rfl 2 rfl) (fun hHeld => ?_)
          clear hK K
          try simp only [Act.put, List.setIfInBounds_toArray, List.set_cons_zero, List.set_cons_succ]
          refine wpAnyH_ready (rs := [3]) (by kernel_rfl) (by simp) ?_
          refine AllReadyH.cons (ops_at rfl) (fun K hK => ?_) AllReadyH.nil
          go_simp
          refine (rUsed_any (by exact (S9.drew.front 4 rfl).front 3 rfl) v9 HU9.out (by omega) HYs9.out HOk9.out).mono ?_
          rintro e w22 ⟨rfl, T2⟩
          refine hK.out _ _ (by exact T2.cell 5 rfl 2 rfl) (fun hHeld => ?_)
          clear hK K
          try simp only [Act.put, List.setIfInBounds_toArray, List.set_cons_zero, List.set_cons_succ]
          refine wpAnyH_take (i := 4) (v := ?v50) (ops_at rfl) (by kernel_rfl) (by kernel_rfl) (by kernel_rfl) (fun _ _ _ h => h) (Or.inl ⟨by rfl, ?hy50⟩) (by assumption) ?rest50
          case hy50 => intro w' hSw; (try dsimp only at hSw); go_simp; try with_reducible rfl
          try simp only [Act.put, List.setIfInBounds_toArray, List.set_cons_zero, List.set_cons_succ]
          refine wpAnyH_take (i := 5) (v := ?v51) (ops_at rfl) (by kernel_rfl) (by kernel_rfl) (by kernel_rfl) (fun _ _ _ h => h) (Or.inl ⟨by rfl, ?hy51⟩) (by assumption) ?rest51
          case hy51 => intro w' hSw; (try dsimp only at hSw); go_simp; try with_reducible rfl
          try simp only [Act.put, List.setIfInBounds_toArray, List.set_cons_zero, List.set_cons_succ]
          refine wpAnyH_take (i := 6) (v := ?v52) (ops_at rfl) (by kernel_rfl) (by kernel_rfl) (by kernel_rfl) (fun _ _ _ h => h) (Or.inl ⟨by rfl, ?hy52⟩) (by assumption) ?rest52
          case hy52 => intro w' hSw; (try dsimp only at hSw); go_simp; try with_reducible rfl
          try simp only [Act.put, List.setIfInBounds_toArray, List.set_cons_zero, List.set_cons_succ]
          refine wpAnyH_take (i := 8) (v := ?v53) (ops_at rfl) (by kernel_rfl) (by kernel_rfl) (by kernel_rfl) (fun _ _ _ h => h) (Or.inl ⟨by rfl, ?hy53⟩) (by assumption) ?rest53
          case hy53 => intro w' hSw; (try dsimp only at hSw); go_simp; try with_reducible rfl
          try simp only [Act.put, List.setIfInBounds_toArray, List.set_cons_zero, List.set_cons_succ]
          refine wpAnyH_ready (rs := [7]) (by kernel_rfl) (by simp) ?_
          refine AllReadyH.cons (ops_at rfl) (fun K hK => ?_) AllReadyH.nil
          go_simp
          refine (hbytes (by exact T2) 3 rfl (by omega) n HBl9.out).mono ?_
          rintro e w23 ⟨a23, c23, rfl, T3, -⟩
          refine hK.out _ _ (by exact T3.cell 5 rfl 2 rfl) (fun hHeld => ?_)
          clear hK K
          try simp only [Act.put, List.setIfInBounds_toArray, List.set_cons_zero, List.set_cons_succ]
          refine wpAnyH_ready (rs := [9]) (by kernel_rfl) (by simp) ?_
          refine AllReadyH.cons (ops_at rfl) (fun K hK => ?_) AllReadyH.nil
          go_simp
          refine (rdbytes_any (by exact T3.front 4 rfl) n HRl9.out (by omega)).mono ?_
          rintro e w24 ⟨a24, c24, rfl, T4, -⟩
          refine hK.out _ _ (by exact T4.cell 6 rfl 2 rfl) (fun hHeld => ?_)
          clear hK K
          try simp only [Act.put, List.setIfInBounds_toArray, List.set_cons_zero, List.set_cons_succ]
          refine wpAnyH_ready (rs := [10]) (by kernel_rfl) (by simp) ?_
          refine AllReadyH.cons (ops_at rfl) (fun K hK => ?_) AllReadyH.nil
          go_simp
          refine (hcmp T4 true a23 a24 d9.bytes r9.bytes n n c23 c24 (by rw [HB9.out]; simp) HBl9.out (by rw [← HB9.out]; exact HBl9.out) (by unfold maxLen; omega) (by unfold maxLen; omega) (by exact T4.at 7 rfl) (by exact T4.at 0 rfl)).mono ?_
          rintro e w25 ⟨rfl, T5, -⟩
          refine hK.out _ _ (by exact T5.cell 6 rfl 2 rfl) (fun hHeld => ?_)
          clear hK K
          try simp only [Act.put, List.setIfInBounds_toArray, List.set_cons_zero, List.set_cons_succ]
          refine wpAnyH_take (i := 11) (v := ?v57) (ops_at rfl) (by kernel_rfl) (by kernel_rfl) (by kernel_rfl) (fun _ _ _ h => h) (Or.inl ⟨by rfl, ?hy57⟩) (by assumption) ?rest57
          case hy57 => intro w' hSw; (try dsimp only at hSw); go_simp; try with_reducible rfl
          try simp only [Act.put, List.setIfInBounds_toArray, List.set_cons_zero, List.set_cons_succ]
          refine wpAnyH_take (i := 12) (v := ?v58) (ops_at rfl) (by kernel_rfl) (by kernel_rfl) (by kernel_rfl) (fun _ _ _ h => h) (Or.inl ⟨by rfl, ?hy58⟩) (by assumption) ?rest58
          case hy58 => intro w' hSw; (try dsimp only at hSw); go_simp; try with_reducible rfl
          try simp only [Act.put, List.setIfInBounds_toArray, List.set_cons_zero, List.set_cons_succ]
          refine wpAnyH_take (i := 13) (v := ?v59) (ops_at rfl) (by kernel_rfl) (by kernel_rfl) (by kernel_rfl) (fun _ _ _ h => h) (Or.inl ⟨by rfl, ?hy59⟩) (by assumption) ?rest59
          case hy59 => intro w' hSw; (try dsimp only at hSw); go_simp; try with_reducible rfl
          try simp only [Act.put, List.setIfInBounds_toArray, List.set_cons_zero, List.set_cons_succ]
          refine wpAnyH_take (i := 14) (v := ?v60) (ops_at rfl) (by kernel_rfl) (by kernel_rfl) (by kernel_rfl) (fun _ _ _ h => h) (Or.inl ⟨by rfl, ?hy60⟩) (by assumption) ?rest60
          case hy60 => intro w' hSw; (try dsimp only at hSw); go_simp; try with_reducible rfl
          try simp only [Act.put, List.setIfInBounds_toArray, List.set_cons_zero, List.set_cons_succ]
          refine wpAnyH_take (i := 15) (v := ?v61) (ops_at rfl) (by kernel_rfl) (by kernel_rfl) (by kernel_rfl) (fun _ _ _ h => h) (Or.inl ⟨by rfl, ?hy61⟩) (by assumption) ?rest61
          case hy61 => intro w' hSw; (try dsimp only at hSw); go_simp; try with_reducible rfl
          try simp only [Act.put, List.setIfInBounds_toArray, List.set_cons_zero, List.set_cons_succ]
          refine wpAnyH_take (i := 16) (v := ?v62) (ops_at rfl) (by kernel_rfl) (by kernel_rfl) (by kernel_rfl) (fun _ _ _ h => h) (Or.inl ⟨by rfl, ?hy62⟩) (by assumption) ?rest62
          case hy62 => intro w' hSw; (try dsimp only at hSw); go_simp; try with_reducible rfl
          try simp only [Act.put, List.setIfInBounds_toArray, List.set_cons_zero, List.set_cons_succ]
          refine wpAnyH_take (i := 17) (v := ?v63) (ops_at rfl) (by kernel_rfl) (by kernel_rfl) (by kernel_rfl) (fun _ _ _ h => h) (Or.inl ⟨by rfl, ?hy63⟩) (by assumption) ?rest63
          case hy63 => intro w' hSw; (try dsimp only at hSw); go_simp; try with_reducible rfl
          try simp only [Act.put, List.setIfInBounds_toArray, List.set_cons_zero, List.set_cons_succ]
          refine wpAnyH_take (i := 19) (v := ?v64) (ops_at rfl) (by kernel_rfl) (by kernel_rfl) (by kernel_rfl) (fun _ _ _ h => h) (Or.inl ⟨by rfl, ?hy64⟩) (by assumption) ?rest64
          case hy64 => intro w' hSw; (try dsimp only at hSw); go_simp; try with_reducible rfl
          try simp only [Act.put, List.setIfInBounds_toArray, List.set_cons_zero, List.set_cons_succ]
          refine wpAnyH_take (i := 20) (v := ?v65) (ops_at rfl) (by kernel_rfl) (by kernel_rfl) (by kernel_rfl) (fun _ _ _ h => h) (Or.inl ⟨by rfl, ?hy65⟩) (by assumption) ?rest65
          case hy65 => intro w' hSw; (try dsimp only at hSw); go_simp; try with_reducible rfl
          try simp only [Act.put, List.setIfInBounds_toArray, List.set_cons_zero, List.set_cons_succ]
          refine wpAnyH_take (i := 21) (v := ?v66) (ops_at rfl) (by kernel_rfl) (by kernel_rfl) (by kernel_rfl) (fun _ _ _ h => h) (Or.inl ⟨by rfl, ?hy66⟩) (by assumption) ?rest66
          case hy66 => intro w' hSw; (try dsimp only at hSw); go_simp; try with_reducible rfl
          try simp only [Act.put, List.setIfInBounds_toArray, List.set_cons_zero, List.set_cons_succ]
          refine wpAnyH_take (i := 22) (v := ?v67) (ops_at rfl) (by kernel_rfl) (by kernel_rfl) (by kernel_rfl) (fun _ _ _ h => h) (Or.inl ⟨by rfl, ?hy67⟩) (by assumption) ?rest67
          case hy67 => intro w' hSw; (try dsimp only at hSw); go_simp; try with_reducible rfl
          try simp only [Act.put, List.setIfInBounds_toArray, List.set_cons_zero, List.set_cons_succ]
          refine wpAnyH_ready (rs := [18]) (by kernel_rfl) (by simp) ?_
          refine AllReadyH.cons (ops_at rfl) (fun K hK => ?_) AllReadyH.nil
          go_simp
          refine (room_any (by exact T5.front 4 rfl) (x.n : Int) (by omega) (by omega)).mono ?_
          rintro e w26 ⟨rfl, T6, -⟩
          refine hK.out _ _ (by exact T6.cell 6 rfl 2 rfl) (fun hHeld => ?_)
          clear hK K
          try simp only [Act.put, List.setIfInBounds_toArray, List.set_cons_zero, List.set_cons_succ]
          rw [HRm9.out]
          refine wpAnyH_take (i := 23) (v := ?v69) (ops_at rfl) (by kernel_rfl) (by kernel_rfl) (by kernel_rfl) (fun _ _ _ h => h) (Or.inl ⟨by rfl, ?hy69⟩) (by assumption) ?rest69
          case hy69 => intro w' hSw; (try dsimp only at hSw); go_simp; try with_reducible rfl
          try simp only [Act.put, List.setIfInBounds_toArray, List.set_cons_zero, List.set_cons_succ]
          refine wpAnyH_take (i := 24) (v := ?v70) (ops_at rfl) (by kernel_rfl) (by kernel_rfl) (by kernel_rfl) (fun _ _ _ h => h) (Or.inl ⟨by rfl, ?hy70⟩) (by assumption) ?rest70
          case hy70 => intro w' hSw; (try dsimp only at hSw); go_simp; try with_reducible rfl
          try simp only [Act.put, List.setIfInBounds_toArray, List.set_cons_zero, List.set_cons_succ]
          refine wpAnyH_take (i := 25) (v := ?v71) (ops_at rfl) (by kernel_rfl) (by kernel_rfl) (by kernel_rfl) (fun _ _ _ h => h) (Or.inl ⟨by rfl, ?hy71⟩) (by assumption) ?rest71
          case hy71 => intro w' hSw; (try dsimp only at hSw); go_simp; try with_reducible rfl
          try simp only [Act.put, List.setIfInBounds_toArray, List.set_cons_zero, List.set_cons_succ]
          refine wpAnyH_take (i := 28) (v := ?v72) (ops_at rfl) (by kernel_rfl) (by kernel_rfl) (by kernel_rfl) (fun _ _ _ h => h) (Or.inl ⟨by rfl, ?hy72⟩) (by assumption) ?rest72
          case hy72 => intro w' hSw; (try dsimp only at hSw); go_simp; try with_reducible rfl
          try simp only [Act.put, List.setIfInBounds_toArray, List.set_cons_zero, List.set_cons_succ]
          refine wpAnyH_take (i := 29) (v := ?v73) (ops_at rfl) (by kernel_rfl) (by kernel_rfl) (by kernel_rfl) (fun _ _ _ h => h) (Or.inl ⟨by rfl, ?hy73⟩) (by assumption) ?rest73
          case hy73 => intro w' hSw; (try dsimp only at hSw); go_simp; try with_reducible rfl
          try simp only [Act.put, List.setIfInBounds_toArray, List.set_cons_zero, List.set_cons_succ]
          refine wpAnyH_ready (rs := [26]) (by kernel_rfl) (by simp) ?_
          refine AllReadyH.cons (ops_at rfl) (fun K hK => ?_) AllReadyH.nil
          go_simp
          refine (rfrPut_any x.a x.b x.n x.c _ HX.out.len (by omega) (by exact T6.old HX.out.isAt)).mono ?_
          rintro e w27 ⟨a27, c27, rfl, -, hb27⟩
          have T7 := T6.grow hb27
          refine hK.out _ _ (by exact T7.cell 6 rfl 2 rfl) (fun hHeld => ?_)
          clear hK K
          try simp only [Act.put, List.setIfInBounds_toArray, List.set_cons_zero, List.set_cons_succ]
          refine wpAnyH_take (i := 27) (v := ?v75) (ops_at rfl) (by kernel_rfl) (by kernel_rfl) (by kernel_rfl) (fun _ _ _ h => h) (Or.inl ⟨by rfl, ?hy75⟩) (by assumption) ?rest75
          case hy75 => intro w' hSw; (try dsimp only at hSw); go_simp; try with_reducible rfl
          try simp only [Act.put, List.setIfInBounds_toArray, List.set_cons_zero, List.set_cons_succ]
          refine wpAnyH_ready (rs := [30]) (by kernel_rfl) (by simp) ?_
          refine AllReadyH.cons (ops_at rfl) (fun K hK => ?_) AllReadyH.nil
          go_simp
          refine (rUsed_any (by exact (T7.front 4 rfl).front 4 rfl) v9 HU9.out (by omega) HYs9.out HOk9.out).mono ?_
          rintro e w28 ⟨rfl, T8⟩
          refine hK.out _ _ (by exact T8.cell 6 rfl 2 rfl) (fun hHeld => ?_)
          clear hK K
          try simp only [Act.put, List.setIfInBounds_toArray, List.set_cons_zero, List.set_cons_succ]
          refine wpAnyH_take (i := 31) (v := ?v77) (ops_at rfl) (by kernel_rfl) (by kernel_rfl) (by kernel_rfl) (fun _ _ _ h => h) (Or.inl ⟨by rfl, ?hy77⟩) (by assumption) ?rest77
          case hy77 => intro w' hSw; (try dsimp only at hSw); go_simp; try with_reducible rfl
          try simp only [Act.put, List.setIfInBounds_toArray, List.set_cons_zero, List.set_cons_succ]
          refine wpAnyH_take (i := 32) (v := ?v78) (ops_at rfl) (by kernel_rfl) (by kernel_rfl) (by kernel_rfl) (fun _ _ _ h => h) (Or.inl ⟨by rfl, ?hy78⟩) (by assumption) ?rest78
          case hy78 => intro w' hSw; (try dsimp only at hSw); go_simp; try with_reducible rfl
          try simp only [Act.put, List.setIfInBounds_toArray, List.set_cons_zero, List.set_cons_succ]
          refine wpAnyH_take (i := 33) (v := ?v79) (ops_at rfl) (by kernel_rfl) (by kernel_rfl) (by kernel_rfl) (fun _ _ _ h => h) (Or.inl ⟨by rfl, ?hy79⟩) (by assumption) ?rest79
          case hy79 => intro w' hSw; (try dsimp only at hSw); go_simp; try with_reducible rfl
          try simp only [Act.put, List.setIfInBounds_toArray, List.set_cons_zero, List.set_cons_succ]
          refine wpAnyH_take (i := 34) (v := ?v80) (ops_at rfl) (by kernel_rfl) (by kernel_rfl) (by kernel_rfl) (fun _ _ _ h => h) (Or.inl ⟨by rfl, ?hy80⟩) (by assumption) ?rest80
          case hy80 => intro w' hSw; (try dsimp only at hSw); go_simp; try with_reducible rfl
          try simp only [Act.put, List.setIfInBounds_toArray, List.set_cons_zero, List.set_cons_succ]
          refine wpAnyH_take (i := 35) (v := ?v81) (ops_at rfl) (by kernel_rfl) (by kernel_rfl) (by kernel_rfl) (fun _ _ _ h => h) (Or.inl ⟨by rfl, ?hy81⟩) (by assumption) ?rest81
          case hy81 => intro w' hSw; (try dsimp only at hSw); go_simp; try with_reducible rfl
          try simp only [Act.put, List.setIfInBounds_toArray, List.set_cons_zero, List.set_cons_succ]
          refine wpAnyH_done (by kernel_rfl) ?_ _
          go_wp2
          go_roundw
          case rel => exact ⟨k + 1, v9, _, _, d9, r9, ys9, aY9, cY9, by omega, rfl, rfl, by go_num, HYs9.out, R9.out, ((((T8.front 1 rfl).front 4 rfl |>.front 2 rfl).front 5 rfl).front 4 rfl).take 5⟩
          case measure => simp [intOf]; omega
    have g0' : (x.kind == 0) = false := by simpa using hk0
    by_cases hk1 : x.kind = 1
    · have g1' : (x.kind == 1) = true := by simpa using hk1
      clear hk0 hk1
      go_wp2_with fail
      refine (logClear_any (by exact S5) (by omega) (by omega) (by omega)).mono ?_
      rintro e w10 ⟨rfl, T10⟩
      go_wp2_with fail
      refine (rClear_any (aL := aL) (n := 0) (cL := 0) (by exact ((T10.front 4 rfl).front 4 rfl).front 4 rfl) (by omega) (by omega) (by omega)).mono ?_
      rintro e w11 ⟨rfl, T11⟩
      have hR9 := (HR.out.clear).le (j := 1 + 2 * (k + 1)) (by omega)
      obtain ⟨d9, hd9⟩ : ∃ d9, d.nought fr sz 0 = d9 := ⟨_, rfl⟩
      obtain ⟨r9, hr9⟩ : ∃ r9, r.nought fr sz 0 = r9 := ⟨_, rfl⟩
      obtain ⟨v9, hv9⟩ : ∃ v9 : Nat, v9 = 0 := ⟨_, rfl⟩
      obtain ⟨ys9, hys9⟩ : ∃ ys9 : List BS, ys9 = [] := ⟨_, rfl⟩
      obtain ⟨aY9, haY9⟩ : ∃ aY9 : Option Addr, aY9 = none := ⟨_, rfl⟩
      obtain ⟨cY9, hcY9⟩ : ∃ cY9 : Nat, cY9 = 0 := ⟨_, rfl⟩
      rw [hd9, hr9] at hR9
      have S9 : St w w11 [cellsT g 81 (logC pd fr sz v9), diskT pd d9, cellsT h 69 (rlogC pr fr sz (.slice aY9 ys9.length cY9)), rdT pr r9, rowsT eS bsRefs (.slice aY9 ys9.length cY9) ys9, cellsT wr.heap.size 34 [.int .i64 x.kind, .int .i64 x.keep, .slice x.a x.n x.c]] := by
        rw [← hd9, ← hr9, hv9, hys9, haY9, hcY9]
        exact (T11.front 4 rfl).front 4 rfl
      have R9 : Hid (LogRel d9 r9 fr sz v9 (ys9.map BS.l) n (1 + 2 * (k + 1))) := by rw [hv9, hys9]; exact hR9
      have HYs9 : Hid (∀ y ∈ ys9, BS.Hd y) := by rw [hys9]; intro y hy; simp at hy
      clear T10 T11 hR9 hd9 hr9 hv9 hys9 haY9 hcY9
      by_cases h0 : x.n = 0
      · as_aux_lemma =>
          have q3 : decide ((0 : Int) < (x.n : Int)) = false := decide_eq_false (by omega)
          have q3n : decide (0 < x.n) = false := decide_eq_false (by omega)
          have HRm9 : Hid (roomB sz v9 (x.n : Int) = false) := by rw [Hid]; unfold roomB; rw [h0]; simp
          clear h0
          have lr := R9.out
          have hu9 := lr.inv.le
          have hr9 := lr.inv.room
          have hl9 := lr.len
          have hn9 := lr.few
          have hp9 := lr.psLen
          have hpn9 := lr.psNum
          rw [List.length_map] at hpn9
          have hw9 := lr.waits
          have hok9 : ∀ y ∈ ys9, y.l.length ≤ 4000 := fun y hy => (lr.inv.ok _ (List.mem_map_of_mem hy)).2
          have HOk9 := hid hok9
          have HU9 := hid lr.inv.len_
          have HB9 : Hid (d9.bytes = r9.bytes) := (lr.rel.bytes lr.inv.fit).symm
          have HBl9 : Hid (d9.bytes.length = n) := by rw [Hid, DSt.bytes, dAll_len _ _ lr.inv.fit]; exact lr.len
          have HRl9 : Hid (r9.b.length = n) := by rw [Hid, lr.rel.b]; exact lr.len
          clear hok9 lr
          have q1 : ((v9 : Int) != (v9 : Int)) = false := by simp
          have q2 : IntKind.i64.wrap ((sz : Int) - (v9 : Int)) = ((sz - v9 : Nat) : Int) := by rw [IntKind.wrap_i64]; omega
          go_wp2_with fail
          refine wp_region_held_drew (S := (fun w' => w'.cell? ⟨wr.heap.size, 2, none⟩ = some (.slice x.a x.n x.c))) (by kernel_rfl) (by exact S9.drew.cell 5 rfl 2 rfl) (fun hHeld => ?_)
          change wpAnyH _ _ _ _ _ 36 (Array.replicate 36 false) _ _
          refine wpAnyH_take (i := 0) (v := ?v82) (ops_at rfl) (by kernel_rfl) (by kernel_rfl) (by kernel_rfl) (fun _ _ _ h => h) (Or.inl ⟨by rfl, ?hy82⟩) (by assumption) ?rest82
          case hy82 => intro w' hSw; (try dsimp only at hSw); go_simp; try with_reducible rfl
          try simp only [Act.put, List.setIfInBounds_toArray, List.set_cons_zero, List.set_cons_succ]
          refine wpAnyH_take (i := 2) (v := ?v83) (ops_at rfl) (by kernel_rfl) (by kernel_rfl) (by kernel_rfl) (fun _ _ _ h => h) (Or.inl ⟨by rfl, ?hy83⟩) (by assumption) ?rest83
          case hy83 => intro w' hSw; (try dsimp only at hSw); go_simp; try with_reducible rfl
          try simp only [Act.put, List.setIfInBounds_toArray, List.set_cons_zero, List.set_cons_succ]
          refine wpAnyH_ready (rs := [1]) (by kernel_rfl) (by simp) ?_
          refine AllReadyH.cons (ops_at rfl) (fun K hK => ?_) AllReadyH.nil
          go_simp
          refine (logUsed_any S9.drew).mono ?_
          rintro e w21 ⟨rfl, rfl⟩
          refine hK.out _ _ (by exact S9.drew.cell 5 rfl 2 rfl) (fun hHeld => ?_)
          clear hK K
          try simp only [Act.put, List.setIfInBounds_toArray, List.set_cons_zero, List.set_cons_succ]
          refine wpAnyH_ready (rs := [3]) (by kernel_rfl) (by simp) ?_
          refine AllReadyH.cons (ops_at rfl) (fun K hK => ?_) AllReadyH.nil
          go_simp
          refine (rUsed_any (by exact (S9.drew.front 4 rfl).front 3 rfl) v9 HU9.out (by omega) HYs9.out HOk9.out).mono ?_
          rintro e w22 ⟨rfl, T2⟩
          refine hK.out _ _ (by exact T2.cell 5 rfl 2 rfl) (fun hHeld => ?_)
          clear hK K
          try simp only [Act.put, List.setIfInBounds_toArray, List.set_cons_zero, List.set_cons_succ]
          refine wpAnyH_take (i := 4) (v := ?v86) (ops_at rfl) (by kernel_rfl) (by kernel_rfl) (by kernel_rfl) (fun _ _ _ h => h) (Or.inl ⟨by rfl, ?hy86⟩) (by assumption) ?rest86
          case hy86 => intro w' hSw; (try dsimp only at hSw); go_simp; try with_reducible rfl
          try simp only [Act.put, List.setIfInBounds_toArray, List.set_cons_zero, List.set_cons_succ]
          refine wpAnyH_take (i := 5) (v := ?v87) (ops_at rfl) (by kernel_rfl) (by kernel_rfl) (by kernel_rfl) (fun _ _ _ h => h) (Or.inl ⟨by rfl, ?hy87⟩) (by assumption) ?rest87
          case hy87 => intro w' hSw; (try dsimp only at hSw); go_simp; try with_reducible rfl
          try simp only [Act.put, List.setIfInBounds_toArray, List.set_cons_zero, List.set_cons_succ]
          refine wpAnyH_take (i := 6) (v := ?v88) (ops_at rfl) (by kernel_rfl) (by kernel_rfl) (by kernel_rfl) (fun _ _ _ h => h) (Or.inl ⟨by rfl, ?hy88⟩) (by assumption) ?rest88
          case hy88 => intro w' hSw; (try dsimp only at hSw); go_simp; try with_reducible rfl
          try simp only [Act.put, List.setIfInBounds_toArray, List.set_cons_zero, List.set_cons_succ]
          refine wpAnyH_take (i := 8) (v := ?v89) (ops_at rfl) (by kernel_rfl) (by kernel_rfl) (by kernel_rfl) (fun _ _ _ h => h) (Or.inl ⟨by rfl, ?hy89⟩) (by assumption) ?rest89
          case hy89 => intro w' hSw; (try dsimp only at hSw); go_simp; try with_reducible rfl
          try simp only [Act.put, List.setIfInBounds_toArray, List.set_cons_zero, List.set_cons_succ]
          refine wpAnyH_ready (rs := [7]) (by kernel_rfl) (by simp) ?_
          refine AllReadyH.cons (ops_at rfl) (fun K hK => ?_) AllReadyH.nil
          go_simp
          refine (hbytes (by exact T2) 3 rfl (by omega) n HBl9.out).mono ?_
          rintro e w23 ⟨a23, c23, rfl, T3, -⟩
          refine hK.out _ _ (by exact T3.cell 5 rfl 2 rfl) (fun hHeld => ?_)
          clear hK K
          try simp only [Act.put, List.setIfInBounds_toArray, List.set_cons_zero, List.set_cons_succ]
          refine wpAnyH_ready (rs := [9]) (by kernel_rfl) (by simp) ?_
          refine AllReadyH.cons (ops_at rfl) (fun K hK => ?_) AllReadyH.nil
          go_simp
          refine (rdbytes_any (by exact T3.front 4 rfl) n HRl9.out (by omega)).mono ?_
          rintro e w24 ⟨a24, c24, rfl, T4, -⟩
          refine hK.out _ _ (by exact T4.cell 6 rfl 2 rfl) (fun hHeld => ?_)
          clear hK K
          try simp only [Act.put, List.setIfInBounds_toArray, List.set_cons_zero, List.set_cons_succ]
          refine wpAnyH_ready (rs := [10]) (by kernel_rfl) (by simp) ?_
          refine AllReadyH.cons (ops_at rfl) (fun K hK => ?_) AllReadyH.nil
          go_simp
          refine (hcmp T4 true a23 a24 d9.bytes r9.bytes n n c23 c24 (by rw [HB9.out]; simp) HBl9.out (by rw [← HB9.out]; exact HBl9.out) (by unfold maxLen; omega) (by unfold maxLen; omega) (by exact T4.at 7 rfl) (by exact T4.at 0 rfl)).mono ?_
          rintro e w25 ⟨rfl, T5, -⟩
          refine hK.out _ _ (by exact T5.cell 6 rfl 2 rfl) (fun hHeld => ?_)
          clear hK K
          try simp only [Act.put, List.setIfInBounds_toArray, List.set_cons_zero, List.set_cons_succ]
          refine wpAnyH_take (i := 11) (v := ?v93) (ops_at rfl) (by kernel_rfl) (by kernel_rfl) (by kernel_rfl) (fun _ _ _ h => h) (Or.inl ⟨by rfl, ?hy93⟩) (by assumption) ?rest93
          case hy93 => intro w' hSw; (try dsimp only at hSw); go_simp; try with_reducible rfl
          try simp only [Act.put, List.setIfInBounds_toArray, List.set_cons_zero, List.set_cons_succ]
          refine wpAnyH_take (i := 12) (v := ?v94) (ops_at rfl) (by kernel_rfl) (by kernel_rfl) (by kernel_rfl) (fun _ _ _ h => h) (Or.inl ⟨by rfl, ?hy94⟩) (by assumption) ?rest94
          case hy94 => intro w' hSw; (try dsimp only at hSw); go_simp; try with_reducible rfl
          try simp only [Act.put, List.setIfInBounds_toArray, List.set_cons_zero, List.set_cons_succ]
          refine wpAnyH_take (i := 13) (v := ?v95) (ops_at rfl) (by kernel_rfl) (by kernel_rfl) (by kernel_rfl) (fun _ _ _ h => h) (Or.inl ⟨by rfl, ?hy95⟩) (by assumption) ?rest95
          case hy95 => intro w' hSw; (try dsimp only at hSw); go_simp; try with_reducible rfl
          try simp only [Act.put, List.setIfInBounds_toArray, List.set_cons_zero, List.set_cons_succ]
          refine wpAnyH_take (i := 14) (v := ?v96) (ops_at rfl) (by kernel_rfl) (by kernel_rfl) (by kernel_rfl) (fun _ _ _ h => h) (Or.inl ⟨by rfl, ?hy96⟩) (by assumption) ?rest96
          case hy96 => intro w' hSw; (try dsimp only at hSw); go_simp; try with_reducible rfl
          try simp only [Act.put, List.setIfInBounds_toArray, List.set_cons_zero, List.set_cons_succ]
          refine wpAnyH_take (i := 15) (v := ?v97) (ops_at rfl) (by kernel_rfl) (by kernel_rfl) (by kernel_rfl) (fun _ _ _ h => h) (Or.inl ⟨by rfl, ?hy97⟩) (by assumption) ?rest97
          case hy97 => intro w' hSw; (try dsimp only at hSw); go_simp; try with_reducible rfl
          try simp only [Act.put, List.setIfInBounds_toArray, List.set_cons_zero, List.set_cons_succ]
          refine wpAnyH_take (i := 16) (v := ?v98) (ops_at rfl) (by kernel_rfl) (by kernel_rfl) (by kernel_rfl) (fun _ _ _ h => h) (Or.inl ⟨by rfl, ?hy98⟩) (by assumption) ?rest98
          case hy98 => intro w' hSw; (try dsimp only at hSw); go_simp; try with_reducible rfl
          try simp only [Act.put, List.setIfInBounds_toArray, List.set_cons_zero, List.set_cons_succ]
          refine wpAnyH_take (i := 17) (v := ?v99) (ops_at rfl) (by kernel_rfl) (by kernel_rfl) (by kernel_rfl) (fun _ _ _ h => h) (Or.inl ⟨by rfl, ?hy99⟩) (by assumption) ?rest99
          case hy99 => intro w' hSw; (try dsimp only at hSw); go_simp; try with_reducible rfl
          try simp only [Act.put, List.setIfInBounds_toArray, List.set_cons_zero, List.set_cons_succ]
          refine wpAnyH_take (i := 19) (v := ?v100) (ops_at rfl) (by kernel_rfl) (by kernel_rfl) (by kernel_rfl) (fun _ _ _ h => h) (Or.inl ⟨by rfl, ?hy100⟩) (by assumption) ?rest100
          case hy100 => intro w' hSw; (try dsimp only at hSw); go_simp; try with_reducible rfl
          try simp only [Act.put, List.setIfInBounds_toArray, List.set_cons_zero, List.set_cons_succ]
          refine wpAnyH_take (i := 20) (v := ?v101) (ops_at rfl) (by kernel_rfl) (by kernel_rfl) (by kernel_rfl) (fun _ _ _ h => h) (Or.inl ⟨by rfl, ?hy101⟩) (by assumption) ?rest101
          case hy101 => intro w' hSw; (try dsimp only at hSw); go_simp; try with_reducible rfl
          try simp only [Act.put, List.setIfInBounds_toArray, List.set_cons_zero, List.set_cons_succ]
          refine wpAnyH_take (i := 21) (v := ?v102) (ops_at rfl) (by kernel_rfl) (by kernel_rfl) (by kernel_rfl) (fun _ _ _ h => h) (Or.inl ⟨by rfl, ?hy102⟩) (by assumption) ?rest102
          case hy102 => intro w' hSw; (try dsimp only at hSw); go_simp; try with_reducible rfl
          try simp only [Act.put, List.setIfInBounds_toArray, List.set_cons_zero, List.set_cons_succ]
          refine wpAnyH_take (i := 22) (v := ?v103) (ops_at rfl) (by kernel_rfl) (by kernel_rfl) (by kernel_rfl) (fun _ _ _ h => h) (Or.inl ⟨by rfl, ?hy103⟩) (by assumption) ?rest103
          case hy103 => intro w' hSw; (try dsimp only at hSw); go_simp; try with_reducible rfl
          try simp only [Act.put, List.setIfInBounds_toArray, List.set_cons_zero, List.set_cons_succ]
          refine wpAnyH_ready (rs := [18]) (by kernel_rfl) (by simp) ?_
          refine AllReadyH.cons (ops_at rfl) (fun K hK => ?_) AllReadyH.nil
          go_simp
          refine (room_any (by exact T5.front 4 rfl) (x.n : Int) (by omega) (by omega)).mono ?_
          rintro e w26 ⟨rfl, T6, -⟩
          refine hK.out _ _ (by exact T6.cell 6 rfl 2 rfl) (fun hHeld => ?_)
          clear hK K
          try simp only [Act.put, List.setIfInBounds_toArray, List.set_cons_zero, List.set_cons_succ]
          rw [HRm9.out]
          refine wpAnyH_take (i := 23) (v := ?v105) (ops_at rfl) (by kernel_rfl) (by kernel_rfl) (by kernel_rfl) (fun _ _ _ h => h) (Or.inl ⟨by rfl, ?hy105⟩) (by assumption) ?rest105
          case hy105 => intro w' hSw; (try dsimp only at hSw); go_simp; try with_reducible rfl
          try simp only [Act.put, List.setIfInBounds_toArray, List.set_cons_zero, List.set_cons_succ]
          refine wpAnyH_take (i := 24) (v := undef) (ops_at rfl) (by kernel_rfl) (by kernel_rfl) (by kernel_rfl) (fun _ _ _ h => h) (Or.inr ⟨by rfl, rfl⟩) (by assumption) ?rest106
          try simp only [Act.put, List.setIfInBounds_toArray, List.set_cons_zero, List.set_cons_succ]
          refine wpAnyH_take (i := 25) (v := undef) (ops_at rfl) (by kernel_rfl) (by kernel_rfl) (by kernel_rfl) (fun _ _ _ h => h) (Or.inr ⟨by rfl, rfl⟩) (by assumption) ?rest107
          try simp only [Act.put, List.setIfInBounds_toArray, List.set_cons_zero, List.set_cons_succ]
          refine wpAnyH_take (i := 26) (v := undef) (ops_at rfl) (by kernel_rfl) (by kernel_rfl) (by kernel_rfl) (fun _ _ _ h => h) (Or.inr ⟨by rfl, rfl⟩) (by assumption) ?rest108
          try simp only [Act.put, List.setIfInBounds_toArray, List.set_cons_zero, List.set_cons_succ]
          refine wpAnyH_take (i := 27) (v := undef) (ops_at rfl) (by kernel_rfl) (by kernel_rfl) (by kernel_rfl) (fun _ _ _ h => h) (Or.inr ⟨by rfl, rfl⟩) (by assumption) ?rest109
          try simp only [Act.put, List.setIfInBounds_toArray, List.set_cons_zero, List.set_cons_succ]
          refine wpAnyH_take (i := 28) (v := undef) (ops_at rfl) (by kernel_rfl) (by kernel_rfl) (by kernel_rfl) (fun _ _ _ h => h) (Or.inr ⟨by rfl, rfl⟩) (by assumption) ?rest110
          try simp only [Act.put, List.setIfInBounds_toArray, List.set_cons_zero, List.set_cons_succ]
          refine wpAnyH_take (i := 29) (v := undef) (ops_at rfl) (by kernel_rfl) (by kernel_rfl) (by kernel_rfl) (fun _ _ _ h => h) (Or.inr ⟨by rfl, rfl⟩) (by assumption) ?rest111
          try simp only [Act.put, List.setIfInBounds_toArray, List.set_cons_zero, List.set_cons_succ]
          refine wpAnyH_take (i := 30) (v := undef) (ops_at rfl) (by kernel_rfl) (by kernel_rfl) (by kernel_rfl) (fun _ _ _ h => h) (Or.inr ⟨by rfl, rfl⟩) (by assumption) ?rest112
          try simp only [Act.put, List.setIfInBounds_toArray, List.set_cons_zero, List.set_cons_succ]
          refine wpAnyH_take (i := 31) (v := undef) (ops_at rfl) (by kernel_rfl) (by kernel_rfl) (by kernel_rfl) (fun _ _ _ h => h) (Or.inr ⟨by rfl, rfl⟩) (by assumption) ?rest113
          try simp only [Act.put, List.setIfInBounds_toArray, List.set_cons_zero, List.set_cons_succ]
          refine wpAnyH_take (i := 32) (v := undef) (ops_at rfl) (by kernel_rfl) (by kernel_rfl) (by kernel_rfl) (fun _ _ _ h => h) (Or.inr ⟨by rfl, rfl⟩) (by assumption) ?rest114
          try simp only [Act.put, List.setIfInBounds_toArray, List.set_cons_zero, List.set_cons_succ]
          refine wpAnyH_take (i := 33) (v := ?v115) (ops_at rfl) (by kernel_rfl) (by kernel_rfl) (by kernel_rfl) (fun _ _ _ h => h) (Or.inl ⟨by rfl, ?hy115⟩) (by assumption) ?rest115
          case hy115 => intro w' hSw; (try dsimp only at hSw); go_simp; try with_reducible rfl
          try simp only [Act.put, List.setIfInBounds_toArray, List.set_cons_zero, List.set_cons_succ]
          refine wpAnyH_take (i := 34) (v := ?v116) (ops_at rfl) (by kernel_rfl) (by kernel_rfl) (by kernel_rfl) (fun _ _ _ h => h) (Or.inl ⟨by rfl, ?hy116⟩) (by assumption) ?rest116
          case hy116 => intro w' hSw; (try dsimp only at hSw); go_simp; try with_reducible rfl
          try simp only [Act.put, List.setIfInBounds_toArray, List.set_cons_zero, List.set_cons_succ]
          refine wpAnyH_take (i := 35) (v := ?v117) (ops_at rfl) (by kernel_rfl) (by kernel_rfl) (by kernel_rfl) (fun _ _ _ h => h) (Or.inl ⟨by rfl, ?hy117⟩) (by assumption) ?rest117
          case hy117 => intro w' hSw; (try dsimp only at hSw); go_simp; try with_reducible rfl
          try simp only [Act.put, List.setIfInBounds_toArray, List.set_cons_zero, List.set_cons_succ]
          refine wpAnyH_done (by kernel_rfl) ?_ _
          go_wp2
          go_roundw
          case rel => exact ⟨k + 1, v9, _, _, d9, r9, ys9, aY9, cY9, by omega, rfl, rfl, by go_num, HYs9.out, R9.out, ((((T6.front 4 rfl).front 3 rfl).front 4 rfl).front 5 rfl |>.front 4 rfl).take 5⟩
          case measure => simp [intOf]; omega
      · as_aux_lemma =>
          have q3 : decide ((0 : Int) < (x.n : Int)) = true := decide_eq_true (by omega)
          have q3n : decide (0 < x.n) = true := decide_eq_true (by omega)
          have hfl := HX.out.len
          have HRm9' := room_is (p := x.b) (sz := sz) (u := v9) (by omega) (by omega) R9.out.inv.le
          rw [HX.out.len] at HRm9'
          obtain ⟨b9, hb9⟩ : ∃ b, roomB sz v9 (x.n : Int) = b := ⟨_, rfl⟩
          have q4 : decide (((frameB x.b).length : Int) ≤ ((sz - v9 : Nat) : Int)) = b9 := by rw [← hb9, HRm9']
          have q4n : decide ((frameB x.b).length ≤ sz - v9) = b9 := by rw [← q4, decide_eq_decide]; omega
          have HRm9 := hid hb9
          have q5 : (b9 != b9) = false := by simp
          clear h0 hfl HRm9' hb9
          have lr := R9.out
          have hu9 := lr.inv.le
          have hr9 := lr.inv.room
          have hl9 := lr.len
          have hn9 := lr.few
          have hp9 := lr.psLen
          have hpn9 := lr.psNum
          rw [List.length_map] at hpn9
          have hw9 := lr.waits
          have hok9 : ∀ y ∈ ys9, y.l.length ≤ 4000 := fun y hy => (lr.inv.ok _ (List.mem_map_of_mem hy)).2
          have HOk9 := hid hok9
          have HU9 := hid lr.inv.len_
          have HB9 : Hid (d9.bytes = r9.bytes) := (lr.rel.bytes lr.inv.fit).symm
          have HBl9 : Hid (d9.bytes.length = n) := by rw [Hid, DSt.bytes, dAll_len _ _ lr.inv.fit]; exact lr.len
          have HRl9 : Hid (r9.b.length = n) := by rw [Hid, lr.rel.b]; exact lr.len
          clear hok9 lr
          have q1 : ((v9 : Int) != (v9 : Int)) = false := by simp
          have q2 : IntKind.i64.wrap ((sz : Int) - (v9 : Int)) = ((sz - v9 : Nat) : Int) := by rw [IntKind.wrap_i64]; omega
          go_wp2_with fail
          refine wp_region_held_drew (S := (fun w' => w'.cell? ⟨wr.heap.size, 2, none⟩ = some (.slice x.a x.n x.c))) (by kernel_rfl) (by exact S9.drew.cell 5 rfl 2 rfl) (fun hHeld => ?_)
          change wpAnyH _ _ _ _ _ 36 (Array.replicate 36 false) _ _
          refine wpAnyH_take (i := 0) (v := ?v118) (ops_at rfl) (by kernel_rfl) (by kernel_rfl) (by kernel_rfl) (fun _ _ _ h => h) (Or.inl ⟨by rfl, ?hy118⟩) (by assumption) ?rest118
          case hy118 => intro w' hSw; (try dsimp only at hSw); go_simp; try with_reducible rfl
          try simp only [Act.put, List.setIfInBounds_toArray, List.set_cons_zero, List.set_cons_succ]
          refine wpAnyH_take (i := 2) (v := ?v119) (ops_at rfl) (by kernel_rfl) (by kernel_rfl) (by kernel_rfl) (fun _ _ _ h => h) (Or.inl ⟨by rfl, ?hy119⟩) (by assumption) ?rest119
          case hy119 => intro w' hSw; (try dsimp only at hSw); go_simp; try with_reducible rfl
          try simp only [Act.put, List.setIfInBounds_toArray, List.set_cons_zero, List.set_cons_succ]
          refine wpAnyH_ready (rs := [1]) (by kernel_rfl) (by simp) ?_
          refine AllReadyH.cons (ops_at rfl) (fun K hK => ?_) AllReadyH.nil
          go_simp
          refine (logUsed_any S9.drew).mono ?_
          rintro e w21 ⟨rfl, rfl⟩
          refine hK.out _ _ (by exact S9.drew.cell 5 rfl 2 rfl) (fun hHeld => ?_)
          clear hK K
          try simp only [Act.put, List.setIfInBounds_toArray, List.set_cons_zero, List.set_cons_succ]
          refine wpAnyH_ready (rs := [3]) (by kernel_rfl) (by simp) ?_
          refine AllReadyH.cons (ops_at rfl) (fun K hK => ?_) AllReadyH.nil
          go_simp
          refine (rUsed_any (by exact (S9.drew.front 4 rfl).front 3 rfl) v9 HU9.out (by omega) HYs9.out HOk9.out).mono ?_
          rintro e w22 ⟨rfl, T2⟩
          refine hK.out _ _ (by exact T2.cell 5 rfl 2 rfl) (fun hHeld => ?_)
          clear hK K
          try simp only [Act.put, List.setIfInBounds_toArray, List.set_cons_zero, List.set_cons_succ]
          refine wpAnyH_take (i := 4) (v := ?v122) (ops_at rfl) (by kernel_rfl) (by kernel_rfl) (by kernel_rfl) (fun _ _ _ h => h) (Or.inl ⟨by rfl, ?hy122⟩) (by assumption) ?rest122
          case hy122 => intro w' hSw; (try dsimp only at hSw); go_simp; try with_reducible rfl
          try simp only [Act.put, List.setIfInBounds_toArray, List.set_cons_zero, List.set_cons_succ]
          refine wpAnyH_take (i := 5) (v := ?v123) (ops_at rfl) (by kernel_rfl) (by kernel_rfl) (by kernel_rfl) (fun _ _ _ h => h) (Or.inl ⟨by rfl, ?hy123⟩) (by assumption) ?rest123
          case hy123 => intro w' hSw; (try dsimp only at hSw); go_simp; try with_reducible rfl
          try simp only [Act.put, List.setIfInBounds_toArray, List.set_cons_zero, List.set_cons_succ]
          refine wpAnyH_take (i := 6) (v := ?v124) (ops_at rfl) (by kernel_rfl) (by kernel_rfl) (by kernel_rfl) (fun _ _ _ h => h) (Or.inl ⟨by rfl, ?hy124⟩) (by assumption) ?rest124
          case hy124 => intro w' hSw; (try dsimp only at hSw); go_simp; try with_reducible rfl
          try simp only [Act.put, List.setIfInBounds_toArray, List.set_cons_zero, List.set_cons_succ]
          refine wpAnyH_take (i := 8) (v := ?v125) (ops_at rfl) (by kernel_rfl) (by kernel_rfl) (by kernel_rfl) (fun _ _ _ h => h) (Or.inl ⟨by rfl, ?hy125⟩) (by assumption) ?rest125
          case hy125 => intro w' hSw; (try dsimp only at hSw); go_simp; try with_reducible rfl
          try simp only [Act.put, List.setIfInBounds_toArray, List.set_cons_zero, List.set_cons_succ]
          refine wpAnyH_ready (rs := [7]) (by kernel_rfl) (by simp) ?_
          refine AllReadyH.cons (ops_at rfl) (fun K hK => ?_) AllReadyH.nil
          go_simp
          refine (hbytes (by exact T2) 3 rfl (by omega) n HBl9.out).mono ?_
          rintro e w23 ⟨a23, c23, rfl, T3, -⟩
          refine hK.out _ _ (by exact T3.cell 5 rfl 2 rfl) (fun hHeld => ?_)
          clear hK K
          try simp only [Act.put, List.setIfInBounds_toArray, List.set_cons_zero, List.set_cons_succ]
          refine wpAnyH_ready (rs := [9]) (by kernel_rfl) (by simp) ?_
          refine AllReadyH.cons (ops_at rfl) (fun K hK => ?_) AllReadyH.nil
          go_simp
          refine (rdbytes_any (by exact T3.front 4 rfl) n HRl9.out (by omega)).mono ?_
          rintro e w24 ⟨a24, c24, rfl, T4, -⟩
          refine hK.out _ _ (by exact T4.cell 6 rfl 2 rfl) (fun hHeld => ?_)
          clear hK K
          try simp only [Act.put, List.setIfInBounds_toArray, List.set_cons_zero, List.set_cons_succ]
          refine wpAnyH_ready (rs := [10]) (by kernel_rfl) (by simp) ?_
          refine AllReadyH.cons (ops_at rfl) (fun K hK => ?_) AllReadyH.nil
          go_simp
          refine (hcmp T4 true a23 a24 d9.bytes r9.bytes n n c23 c24 (by rw [HB9.out]; simp) HBl9.out (by rw [← HB9.out]; exact HBl9.out) (by unfold maxLen; omega) (by unfold maxLen; omega) (by exact T4.at 7 rfl) (by exact T4.at 0 rfl)).mono ?_
          rintro e w25 ⟨rfl, T5, -⟩
          refine hK.out _ _ (by exact T5.cell 6 rfl 2 rfl) (fun hHeld => ?_)
          clear hK K
          try simp only [Act.put, List.setIfInBounds_toArray, List.set_cons_zero, List.set_cons_succ]
          refine wpAnyH_take (i := 11) (v := ?v129) (ops_at rfl) (by kernel_rfl) (by kernel_rfl) (by kernel_rfl) (fun _ _ _ h => h) (Or.inl ⟨by rfl, ?hy129⟩) (by assumption) ?rest129
          case hy129 => intro w' hSw; (try dsimp only at hSw); go_simp; try with_reducible rfl
          try simp only [Act.put, List.setIfInBounds_toArray, List.set_cons_zero, List.set_cons_succ]
          refine wpAnyH_take (i := 12) (v := ?v130) (ops_at rfl) (by kernel_rfl) (by kernel_rfl) (by kernel_rfl) (fun _ _ _ h => h) (Or.inl ⟨by rfl, ?hy130⟩) (by assumption) ?rest130
          case hy130 => intro w' hSw; (try dsimp only at hSw); go_simp; try with_reducible rfl
          try simp only [Act.put, List.setIfInBounds_toArray, List.set_cons_zero, List.set_cons_succ]
          refine wpAnyH_take (i := 13) (v := ?v131) (ops_at rfl) (by kernel_rfl) (by kernel_rfl) (by kernel_rfl) (fun _ _ _ h => h) (Or.inl ⟨by rfl, ?hy131⟩) (by assumption) ?rest131
          case hy131 => intro w' hSw; (try dsimp only at hSw); go_simp; try with_reducible rfl
          try simp only [Act.put, List.setIfInBounds_toArray, List.set_cons_zero, List.set_cons_succ]
          refine wpAnyH_take (i := 14) (v := ?v132) (ops_at rfl) (by kernel_rfl) (by kernel_rfl) (by kernel_rfl) (fun _ _ _ h => h) (Or.inl ⟨by rfl, ?hy132⟩) (by assumption) ?rest132
          case hy132 => intro w' hSw; (try dsimp only at hSw); go_simp; try with_reducible rfl
          try simp only [Act.put, List.setIfInBounds_toArray, List.set_cons_zero, List.set_cons_succ]
          refine wpAnyH_take (i := 15) (v := ?v133) (ops_at rfl) (by kernel_rfl) (by kernel_rfl) (by kernel_rfl) (fun _ _ _ h => h) (Or.inl ⟨by rfl, ?hy133⟩) (by assumption) ?rest133
          case hy133 => intro w' hSw; (try dsimp only at hSw); go_simp; try with_reducible rfl
          try simp only [Act.put, List.setIfInBounds_toArray, List.set_cons_zero, List.set_cons_succ]
          refine wpAnyH_take (i := 16) (v := ?v134) (ops_at rfl) (by kernel_rfl) (by kernel_rfl) (by kernel_rfl) (fun _ _ _ h => h) (Or.inl ⟨by rfl, ?hy134⟩) (by assumption) ?rest134
          case hy134 => intro w' hSw; (try dsimp only at hSw); go_simp; try with_reducible rfl
          try simp only [Act.put, List.setIfInBounds_toArray, List.set_cons_zero, List.set_cons_succ]
          refine wpAnyH_take (i := 17) (v := ?v135) (ops_at rfl) (by kernel_rfl) (by kernel_rfl) (by kernel_rfl) (fun _ _ _ h => h) (Or.inl ⟨by rfl, ?hy135⟩) (by assumption) ?rest135
          case hy135 => intro w' hSw; (try dsimp only at hSw); go_simp; try with_reducible rfl
          try simp only [Act.put, List.setIfInBounds_toArray, List.set_cons_zero, List.set_cons_succ]
          refine wpAnyH_take (i := 19) (v := ?v136) (ops_at rfl) (by kernel_rfl) (by kernel_rfl) (by kernel_rfl) (fun _ _ _ h => h) (Or.inl ⟨by rfl, ?hy136⟩) (by assumption) ?rest136
          case hy136 => intro w' hSw; (try dsimp only at hSw); go_simp; try with_reducible rfl
          try simp only [Act.put, List.setIfInBounds_toArray, List.set_cons_zero, List.set_cons_succ]
          refine wpAnyH_take (i := 20) (v := ?v137) (ops_at rfl) (by kernel_rfl) (by kernel_rfl) (by kernel_rfl) (fun _ _ _ h => h) (Or.inl ⟨by rfl, ?hy137⟩) (by assumption) ?rest137
          case hy137 => intro w' hSw; (try dsimp only at hSw); go_simp; try with_reducible rfl
          try simp only [Act.put, List.setIfInBounds_toArray, List.set_cons_zero, List.set_cons_succ]
          refine wpAnyH_take (i := 21) (v := ?v138) (ops_at rfl) (by kernel_rfl) (by kernel_rfl) (by kernel_rfl) (fun _ _ _ h => h) (Or.inl ⟨by rfl, ?hy138⟩) (by assumption) ?rest138
          case hy138 => intro w' hSw; (try dsimp only at hSw); go_simp; try with_reducible rfl
          try simp only [Act.put, List.setIfInBounds_toArray, List.set_cons_zero, List.set_cons_succ]
          refine wpAnyH_take (i := 22) (v := ?v139) (ops_at rfl) (by kernel_rfl) (by kernel_rfl) (by kernel_rfl) (fun _ _ _ h => h) (Or.inl ⟨by rfl, ?hy139⟩) (by assumption) ?rest139
          case hy139 => intro w' hSw; (try dsimp only at hSw); go_simp; try with_reducible rfl
          try simp only [Act.put, List.setIfInBounds_toArray, List.set_cons_zero, List.set_cons_succ]
          refine wpAnyH_ready (rs := [18]) (by kernel_rfl) (by simp) ?_
          refine AllReadyH.cons (ops_at rfl) (fun K hK => ?_) AllReadyH.nil
          go_simp
          refine (room_any (by exact T5.front 4 rfl) (x.n : Int) (by omega) (by omega)).mono ?_
          rintro e w26 ⟨rfl, T6, -⟩
          refine hK.out _ _ (by exact T6.cell 6 rfl 2 rfl) (fun hHeld => ?_)
          clear hK K
          try simp only [Act.put, List.setIfInBounds_toArray, List.set_cons_zero, List.set_cons_succ]
          rw [HRm9.out]
          refine wpAnyH_take (i := 23) (v := ?v141) (ops_at rfl) (by kernel_rfl) (by kernel_rfl) (by kernel_rfl) (fun _ _ _ h => h) (Or.inl ⟨by rfl, ?hy141⟩) (by assumption) ?rest141
          case hy141 => intro w' hSw; (try dsimp only at hSw); go_simp; try with_reducible rfl
          try simp only [Act.put, List.setIfInBounds_toArray, List.set_cons_zero, List.set_cons_succ]
          refine wpAnyH_take (i := 24) (v := ?v142) (ops_at rfl) (by kernel_rfl) (by kernel_rfl) (by kernel_rfl) (fun _ _ _ h => h) (Or.inl ⟨by rfl, ?hy142⟩) (by assumption) ?rest142
          case hy142 => intro w' hSw; (try dsimp only at hSw); go_simp; try with_reducible rfl
          try simp only [Act.put, List.setIfInBounds_toArray, List.set_cons_zero, List.set_cons_succ]
          refine wpAnyH_take (i := 25) (v := ?v143) (ops_at rfl) (by kernel_rfl) (by kernel_rfl) (by kernel_rfl) (fun _ _ _ h => h) (Or.inl ⟨by rfl, ?hy143⟩) (by assumption) ?rest143
          case hy143 => intro w' hSw; (try dsimp only at hSw); go_simp; try with_reducible rfl
          try simp only [Act.put, List.setIfInBounds_toArray, List.set_cons_zero, List.set_cons_succ]
          refine wpAnyH_take (i := 28) (v := ?v144) (ops_at rfl) (by kernel_rfl) (by kernel_rfl) (by kernel_rfl) (fun _ _ _ h => h) (Or.inl ⟨by rfl, ?hy144⟩) (by assumption) ?rest144
          case hy144 => intro w' hSw; (try dsimp only at hSw); go_simp; try with_reducible rfl
          try simp only [Act.put, List.setIfInBounds_toArray, List.set_cons_zero, List.set_cons_succ]
          refine wpAnyH_take (i := 29) (v := ?v145) (ops_at rfl) (by kernel_rfl) (by kernel_rfl) (by kernel_rfl) (fun _ _ _ h => h) (Or.inl ⟨by rfl, ?hy145⟩) (by assumption) ?rest145
          case hy145 => intro w' hSw; (try dsimp only at hSw); go_simp; try with_reducible rfl
          try simp only [Act.put, List.setIfInBounds_toArray, List.set_cons_zero, List.set_cons_succ]
          refine wpAnyH_ready (rs := [26]) (by kernel_rfl) (by simp) ?_
          refine AllReadyH.cons (ops_at rfl) (fun K hK => ?_) AllReadyH.nil
          go_simp
          refine (rfrPut_any x.a x.b x.n x.c _ HX.out.len (by omega) (by exact T6.old HX.out.isAt)).mono ?_
          rintro e w27 ⟨a27, c27, rfl, -, hb27⟩
          have T7 := T6.grow hb27
          refine hK.out _ _ (by exact T7.cell 6 rfl 2 rfl) (fun hHeld => ?_)
          clear hK K
          try simp only [Act.put, List.setIfInBounds_toArray, List.set_cons_zero, List.set_cons_succ]
          refine wpAnyH_take (i := 27) (v := ?v147) (ops_at rfl) (by kernel_rfl) (by kernel_rfl) (by kernel_rfl) (fun _ _ _ h => h) (Or.inl ⟨by rfl, ?hy147⟩) (by assumption) ?rest147
          case hy147 => intro w' hSw; (try dsimp only at hSw); go_simp; try with_reducible rfl
          try simp only [Act.put, List.setIfInBounds_toArray, List.set_cons_zero, List.set_cons_succ]
          refine wpAnyH_ready (rs := [30]) (by kernel_rfl) (by simp) ?_
          refine AllReadyH.cons (ops_at rfl) (fun K hK => ?_) AllReadyH.nil
          go_simp
          refine (rUsed_any (by exact (T7.front 4 rfl).front 4 rfl) v9 HU9.out (by omega) HYs9.out HOk9.out).mono ?_
          rintro e w28 ⟨rfl, T8⟩
          refine hK.out _ _ (by exact T8.cell 6 rfl 2 rfl) (fun hHeld => ?_)
          clear hK K
          try simp only [Act.put, List.setIfInBounds_toArray, List.set_cons_zero, List.set_cons_succ]
          refine wpAnyH_take (i := 31) (v := ?v149) (ops_at rfl) (by kernel_rfl) (by kernel_rfl) (by kernel_rfl) (fun _ _ _ h => h) (Or.inl ⟨by rfl, ?hy149⟩) (by assumption) ?rest149
          case hy149 => intro w' hSw; (try dsimp only at hSw); go_simp; try with_reducible rfl
          try simp only [Act.put, List.setIfInBounds_toArray, List.set_cons_zero, List.set_cons_succ]
          refine wpAnyH_take (i := 32) (v := ?v150) (ops_at rfl) (by kernel_rfl) (by kernel_rfl) (by kernel_rfl) (fun _ _ _ h => h) (Or.inl ⟨by rfl, ?hy150⟩) (by assumption) ?rest150
          case hy150 => intro w' hSw; (try dsimp only at hSw); go_simp; try with_reducible rfl
          try simp only [Act.put, List.setIfInBounds_toArray, List.set_cons_zero, List.set_cons_succ]
          refine wpAnyH_take (i := 33) (v := ?v151) (ops_at rfl) (by kernel_rfl) (by kernel_rfl) (by kernel_rfl) (fun _ _ _ h => h) (Or.inl ⟨by rfl, ?hy151⟩) (by assumption) ?rest151
          case hy151 => intro w' hSw; (try dsimp only at hSw); go_simp; try with_reducible rfl
          try simp only [Act.put, List.setIfInBounds_toArray, List.set_cons_zero, List.set_cons_succ]
          refine wpAnyH_take (i := 34) (v := ?v152) (ops_at rfl) (by kernel_rfl) (by kernel_rfl) (by kernel_rfl) (fun _ _ _ h => h) (Or.inl ⟨by rfl, ?hy152⟩) (by assumption) ?rest152
          case hy152 => intro w' hSw; (try dsimp only at hSw); go_simp; try with_reducible rfl
          try simp only [Act.put, List.setIfInBounds_toArray, List.set_cons_zero, List.set_cons_succ]
          refine wpAnyH_take (i := 35) (v := ?v153) (ops_at rfl) (by kernel_rfl) (by kernel_rfl) (by kernel_rfl) (fun _ _ _ h => h) (Or.inl ⟨by rfl, ?hy153⟩) (by assumption) ?rest153
          case hy153 => intro w' hSw; (try dsimp only at hSw); go_simp; try with_reducible rfl
          try simp only [Act.put, List.setIfInBounds_toArray, List.set_cons_zero, List.set_cons_succ]
          refine wpAnyH_done (by kernel_rfl) ?_ _
          go_wp2
          go_roundw
          case rel => exact ⟨k + 1, v9, _, _, d9, r9, ys9, aY9, cY9, by omega, rfl, rfl, by go_num, HYs9.out, R9.out, ((((T8.front 1 rfl).front 4 rfl |>.front 2 rfl).front 5 rfl).front 4 rfl).take 5⟩
          case measure => simp [intOf]; omega
    have g1' : (x.kind == 1) = false := by simpa using hk1
    by_cases hk3 : x.kind = 3
    · have g3' : (x.kind == 3) = true := by simpa using hk3
      have g2' : (x.kind == 2) = false := by rw [hk3]; rfl
      have g4' : (x.kind == 4) = false := by rw [hk3]; rfl
      clear hk0 hk1 hk3
      have hap := HR.out.put x.b
      obtain ⟨LA, hLA⟩ : ∃ LA, logPut d fr sz u x.b = LA := ⟨_, rfl⟩
      obtain ⟨RP, hRP⟩ : ∃ RP, rlogPut fr sz r (xs.map BS.l) x.b = RP := ⟨_, rfl⟩
      rw [hLA, hRP] at hap
      have tq : (LA.1 != RP.1) = false := by rw [hap.1]; simp
      have HAp := hid hap.2
      have HLA := hid hLA
      have HRP := hid hRP
      clear hap hLA hRP
      go_wp2_with fail
      refine wp_region_held_drew (S := (fun w' => w'.cell? ⟨wr.heap.size, 2, none⟩ = some (.slice x.a x.n x.c))) (by kernel_rfl) (by exact S5.drew.cell 5 rfl 2 rfl) (fun hHeld => ?_)
      change wpAnyH _ _ _ _ _ 9 (Array.replicate 9 false) _ _
      refine wpAnyH_take (i := 0) (v := ?v154) (ops_at rfl) (by kernel_rfl) (by kernel_rfl) (by kernel_rfl) (fun _ _ _ h => h) (Or.inl ⟨by rfl, ?hy154⟩) (by assumption) ?rest154
      case hy154 => intro w' hSw; (try dsimp only at hSw); go_simp; try with_reducible rfl
      try simp only [Act.put, List.setIfInBounds_toArray, List.set_cons_zero, List.set_cons_succ]
      refine wpAnyH_take (i := 1) (v := ?v155) (ops_at rfl) (by kernel_rfl) (by kernel_rfl) (by kernel_rfl) (fun _ _ _ h => h) (Or.inl ⟨by rfl, ?hy155⟩) (by assumption) ?rest155
      case hy155 => intro w' hSw; (try dsimp only at hSw); go_simp; try with_reducible rfl
      try simp only [Act.put, List.setIfInBounds_toArray, List.set_cons_zero, List.set_cons_succ]
      refine wpAnyH_take (i := 2) (v := ?v156) (ops_at rfl) (by kernel_rfl) (by kernel_rfl) (by kernel_rfl) (fun _ _ _ h => h) (Or.inl ⟨by rfl, ?hy156⟩) (by assumption) ?rest156
      case hy156 => intro w' hSw; (try dsimp only at hSw); go_simp; try with_reducible rfl
      try simp only [Act.put, List.setIfInBounds_toArray, List.set_cons_zero, List.set_cons_succ]
      refine wpAnyH_take (i := 4) (v := ?v157) (ops_at rfl) (by kernel_rfl) (by kernel_rfl) (by kernel_rfl) (fun _ _ _ h => h) (Or.inl ⟨by rfl, ?hy157⟩) (by assumption) ?rest157
      case hy157 => intro w' hSw; (try dsimp only at hSw); go_simp; try with_reducible rfl
      try simp only [Act.put, List.setIfInBounds_toArray, List.set_cons_zero, List.set_cons_succ]
      refine wpAnyH_take (i := 5) (v := ?v158) (ops_at rfl) (by kernel_rfl) (by kernel_rfl) (by kernel_rfl) (fun _ _ _ h => h) (Or.inl ⟨by rfl, ?hy158⟩) (by assumption) ?rest158
      case hy158 => intro w' hSw; (try dsimp only at hSw); go_simp; try with_reducible rfl
      try simp only [Act.put, List.setIfInBounds_toArray, List.set_cons_zero, List.set_cons_succ]
      refine wpAnyH_take (i := 6) (v := ?v159) (ops_at rfl) (by kernel_rfl) (by kernel_rfl) (by kernel_rfl) (fun _ _ _ h => h) (Or.inl ⟨by rfl, ?hy159⟩) (by assumption) ?rest159
      case hy159 => intro w' hSw; (try dsimp only at hSw); go_simp; try with_reducible rfl
      try simp only [Act.put, List.setIfInBounds_toArray, List.set_cons_zero, List.set_cons_succ]
      refine wpAnyH_ready (rs := [3]) (by kernel_rfl) (by simp) ?_
      refine AllReadyH.cons (ops_at rfl) (fun K hK => ?_) AllReadyH.nil
      go_simp
      have hA3 := logPut_any (by exact S5.drew) x.a x.b x.n x.c hlen (by unfold maxLen; omega) HX.out.le HX.out.nil (Reads.old HX.out.isAt) (by omega) lle (by omega)
      rw [HLA.out] at hA3
      refine hA3.mono ?_
      rintro e w10 ⟨rfl, T10⟩
      clear hA3
      refine hK.out _ _ (by exact T10.cell 5 rfl 2 rfl) (fun hHeld => ?_)
      clear hK K
      try simp only [Act.put, List.setIfInBounds_toArray, List.set_cons_zero, List.set_cons_succ]
      refine wpAnyH_ready (rs := [7]) (by kernel_rfl) (by simp) ?_
      refine AllReadyH.cons (ops_at rfl) (fun K hK => ?_) AllReadyH.nil
      go_simp
      have hA3 := rPut_any (by exact ((T10.front 4 rfl).front 4 rfl).front 4 rfl) x.a x.b x.n x.c hlen (by omega) HX.out.le HX.out.nil (Reads.old HX.out.isAt) HXs.out HOk5.out (by rw [HU5.out]; omega) (by omega) (by omega) (by omega)
      rw [HRP.out] at hA3
      refine hA3.mono ?_
      rintro e w11 ⟨ys9, aY9, cY9, rfl, hys, hyd, T11⟩
      clear hA3
      refine hK.out _ _ (by exact T11.cell 5 rfl 2 rfl) (fun hHeld => ?_)
      clear hK K
      try simp only [Act.put, List.setIfInBounds_toArray, List.set_cons_zero, List.set_cons_succ]
      refine wpAnyH_take (i := 8) (v := ?v162) (ops_at rfl) (by kernel_rfl) (by kernel_rfl) (by kernel_rfl) (fun _ _ _ h => h) (Or.inl ⟨by rfl, ?hy162⟩) (by assumption) ?rest162
      case hy162 => intro w' hSw; (try dsimp only at hSw); go_simp; try with_reducible rfl
      try simp only [Act.put, List.setIfInBounds_toArray, List.set_cons_zero, List.set_cons_succ]
      refine wpAnyH_done (by kernel_rfl) ?_ _
      have S9 : St w w11 [cellsT g 81 (logC pd fr sz LA.2.2), diskT pd LA.2.1, cellsT h 69 (rlogC pr fr sz (.slice aY9 ys9.length cY9)), rdT pr RP.2.1, rowsT eS bsRefs (.slice aY9 ys9.length cY9) ys9, cellsT wr.heap.size 34 [.int .i64 x.kind, .int .i64 x.keep, .slice x.a x.n x.c]] := (T11.front 4 rfl).front 4 rfl
      have hR9 := HAp.out.le (j := 1 + 2 * (k + 1)) (by omega)
      rw [← hys] at hR9
      obtain ⟨v9, hv9⟩ : ∃ v9, LA.2.2 = v9 := ⟨_, rfl⟩
      obtain ⟨d9, hd9⟩ : ∃ d9, LA.2.1 = d9 := ⟨_, rfl⟩
      obtain ⟨r9, hr9⟩ : ∃ r9, RP.2.1 = r9 := ⟨_, rfl⟩
      rw [hv9, hd9, hr9] at S9 hR9
      have R9 := hid hR9
      have HYs9 := hid hyd
      clear T10 T11 hys hyd hR9 hv9 hd9 hr9
      by_cases h0 : x.n = 0
      · as_aux_lemma =>
          have q3 : decide ((0 : Int) < (x.n : Int)) = false := decide_eq_false (by omega)
          have q3n : decide (0 < x.n) = false := decide_eq_false (by omega)
          have HRm9 : Hid (roomB sz v9 (x.n : Int) = false) := by rw [Hid]; unfold roomB; rw [h0]; simp
          clear h0
          have lr := R9.out
          have hu9 := lr.inv.le
          have hr9 := lr.inv.room
          have hl9 := lr.len
          have hn9 := lr.few
          have hp9 := lr.psLen
          have hpn9 := lr.psNum
          rw [List.length_map] at hpn9
          have hw9 := lr.waits
          have hok9 : ∀ y ∈ ys9, y.l.length ≤ 4000 := fun y hy => (lr.inv.ok _ (List.mem_map_of_mem hy)).2
          have HOk9 := hid hok9
          have HU9 := hid lr.inv.len_
          have HB9 : Hid (d9.bytes = r9.bytes) := (lr.rel.bytes lr.inv.fit).symm
          have HBl9 : Hid (d9.bytes.length = n) := by rw [Hid, DSt.bytes, dAll_len _ _ lr.inv.fit]; exact lr.len
          have HRl9 : Hid (r9.b.length = n) := by rw [Hid, lr.rel.b]; exact lr.len
          clear hok9 lr
          have q1 : ((v9 : Int) != (v9 : Int)) = false := by simp
          have q2 : IntKind.i64.wrap ((sz : Int) - (v9 : Int)) = ((sz - v9 : Nat) : Int) := by rw [IntKind.wrap_i64]; omega
          go_wp2_with fail
          refine wp_region_held_drew (S := (fun w' => w'.cell? ⟨wr.heap.size, 2, none⟩ = some (.slice x.a x.n x.c))) (by kernel_rfl) (by exact S9.drew.cell 5 rfl 2 rfl) (fun hHeld => ?_)
          change wpAnyH _ _ _ _ _ 36 (Array.replicate 36 false) _ _
          refine wpAnyH_take (i := 0) (v := ?v163) (ops_at rfl) (by kernel_rfl) (by kernel_rfl) (by kernel_rfl) (fun _ _ _ h => h) (Or.inl ⟨by rfl, ?hy163⟩) (by assumption) ?rest163
          case hy163 => intro w' hSw; (try dsimp only at hSw); go_simp; try with_reducible rfl
          try simp only [Act.put, List.setIfInBounds_toArray, List.set_cons_zero, List.set_cons_succ]
          refine wpAnyH_take (i := 2) (v := ?v164) (ops_at rfl) (by kernel_rfl) (by kernel_rfl) (by kernel_rfl) (fun _ _ _ h => h) (Or.inl ⟨by rfl, ?hy164⟩) (by assumption) ?rest164
          case hy164 => intro w' hSw; (try dsimp only at hSw); go_simp; try with_reducible rfl
          try simp only [Act.put, List.setIfInBounds_toArray, List.set_cons_zero, List.set_cons_succ]
          refine wpAnyH_ready (rs := [1]) (by kernel_rfl) (by simp) ?_
          refine AllReadyH.cons (ops_at rfl) (fun K hK => ?_) AllReadyH.nil
          go_simp
          refine (logUsed_any S9.drew).mono ?_
          rintro e w21 ⟨rfl, rfl⟩
          refine hK.out _ _ (by exact S9.drew.cell 5 rfl 2 rfl) (fun hHeld => ?_)
          clear hK K
          try simp only [Act.put, List.setIfInBounds_toArray, List.set_cons_zero, List.set_cons_succ]
          refine wpAnyH_ready (rs := [3]) (by kernel_rfl) (by simp) ?_
          refine AllReadyH.cons (ops_at rfl) (fun K hK => ?_) AllReadyH.nil
          go_simp
          refine (rUsed_any (by exact (S9.drew.front 4 rfl).front 3 rfl) v9 HU9.out (by omega) HYs9.out HOk9.out).mono ?_
          rintro e w22 ⟨rfl, T2⟩
          refine hK.out _ _ (by exact T2.cell 5 rfl 2 rfl) (fun hHeld => ?_)
          clear hK K
          try simp only [Act.put, List.setIfInBounds_toArray, List.set_cons_zero, List.set_cons_succ]
          refine wpAnyH_take (i := 4) (v := ?v167) (ops_at rfl) (by kernel_rfl) (by kernel_rfl) (by kernel_rfl) (fun _ _ _ h => h) (Or.inl ⟨by rfl, ?hy167⟩) (by assumption) ?rest167
          case hy167 => intro w' hSw; (try dsimp only at hSw); go_simp; try with_reducible rfl
          try simp only [Act.put, List.setIfInBounds_toArray, List.set_cons_zero, List.set_cons_succ]
          refine wpAnyH_take (i := 5) (v := ?v168) (ops_at rfl) (by kernel_rfl) (by kernel_rfl) (by kernel_rfl) (fun _ _ _ h => h) (Or.inl ⟨by rfl, ?hy168⟩) (by assumption) ?rest168
          case hy168 => intro w' hSw; (try dsimp only at hSw); go_simp; try with_reducible rfl
          try simp only [Act.put, List.setIfInBounds_toArray, List.set_cons_zero, List.set_cons_succ]
          refine wpAnyH_take (i := 6) (v := ?v169) (ops_at rfl) (by kernel_rfl) (by kernel_rfl) (by kernel_rfl) (fun _ _ _ h => h) (Or.inl ⟨by rfl, ?hy169⟩) (by assumption) ?rest169
          case hy169 => intro w' hSw; (try dsimp only at hSw); go_simp; try with_reducible rfl
          try simp only [Act.put, List.setIfInBounds_toArray, List.set_cons_zero, List.set_cons_succ]
          refine wpAnyH_take (i := 8) (v := ?v170) (ops_at rfl) (by kernel_rfl) (by kernel_rfl) (by kernel_rfl) (fun _ _ _ h => h) (Or.inl ⟨by rfl, ?hy170⟩) (by assumption) ?rest170
          case hy170 => intro w' hSw; (try dsimp only at hSw); go_simp; try with_reducible rfl
          try simp only [Act.put, List.setIfInBounds_toArray, List.set_cons_zero, List.set_cons_succ]
          refine wpAnyH_ready (rs := [7]) (by kernel_rfl) (by simp) ?_
          refine AllReadyH.cons (ops_at rfl) (fun K hK => ?_) AllReadyH.nil
          go_simp
          refine (hbytes (by exact T2) 3 rfl (by omega) n HBl9.out).mono ?_
          rintro e w23 ⟨a23, c23, rfl, T3, -⟩
          refine hK.out _ _ (by exact T3.cell 5 rfl 2 rfl) (fun hHeld => ?_)
          clear hK K
          try simp only [Act.put, List.setIfInBounds_toArray, List.set_cons_zero, List.set_cons_succ]
          refine wpAnyH_ready (rs := [9]) (by kernel_rfl) (by simp) ?_
          refine AllReadyH.cons (ops_at rfl) (fun K hK => ?_) AllReadyH.nil
          go_simp
          refine (rdbytes_any (by exact T3.front 4 rfl) n HRl9.out (by omega)).mono ?_
          rintro e w24 ⟨a24, c24, rfl, T4, -⟩
          refine hK.out _ _ (by exact T4.cell 6 rfl 2 rfl) (fun hHeld => ?_)
          clear hK K
          try simp only [Act.put, List.setIfInBounds_toArray, List.set_cons_zero, List.set_cons_succ]
          refine wpAnyH_ready (rs := [10]) (by kernel_rfl) (by simp) ?_
          refine AllReadyH.cons (ops_at rfl) (fun K hK => ?_) AllReadyH.nil
          go_simp
          refine (hcmp T4 true a23 a24 d9.bytes r9.bytes n n c23 c24 (by rw [HB9.out]; simp) HBl9.out (by rw [← HB9.out]; exact HBl9.out) (by unfold maxLen; omega) (by unfold maxLen; omega) (by exact T4.at 7 rfl) (by exact T4.at 0 rfl)).mono ?_
          rintro e w25 ⟨rfl, T5, -⟩
          refine hK.out _ _ (by exact T5.cell 6 rfl 2 rfl) (fun hHeld => ?_)
          clear hK K
          try simp only [Act.put, List.setIfInBounds_toArray, List.set_cons_zero, List.set_cons_succ]
          refine wpAnyH_take (i := 11) (v := ?v174) (ops_at rfl) (by kernel_rfl) (by kernel_rfl) (by kernel_rfl) (fun _ _ _ h => h) (Or.inl ⟨by rfl, ?hy174⟩) (by assumption) ?rest174
          case hy174 => intro w' hSw; (try dsimp only at hSw); go_simp; try with_reducible rfl
          try simp only [Act.put, List.setIfInBounds_toArray, List.set_cons_zero, List.set_cons_succ]
          refine wpAnyH_take (i := 12) (v := ?v175) (ops_at rfl) (by kernel_rfl) (by kernel_rfl) (by kernel_rfl) (fun _ _ _ h => h) (Or.inl ⟨by rfl, ?hy175⟩) (by assumption) ?rest175
          case hy175 => intro w' hSw; (try dsimp only at hSw); go_simp; try with_reducible rfl
          try simp only [Act.put, List.setIfInBounds_toArray, List.set_cons_zero, List.set_cons_succ]
          refine wpAnyH_take (i := 13) (v := ?v176) (ops_at rfl) (by kernel_rfl) (by kernel_rfl) (by kernel_rfl) (fun _ _ _ h => h) (Or.inl ⟨by rfl, ?hy176⟩) (by assumption) ?rest176
          case hy176 => intro w' hSw; (try dsimp only at hSw); go_simp; try with_reducible rfl
          try simp only [Act.put, List.setIfInBounds_toArray, List.set_cons_zero, List.set_cons_succ]
          refine wpAnyH_take (i := 14) (v := ?v177) (ops_at rfl) (by kernel_rfl) (by kernel_rfl) (by kernel_rfl) (fun _ _ _ h => h) (Or.inl ⟨by rfl, ?hy177⟩) (by assumption) ?rest177
          case hy177 => intro w' hSw; (try dsimp only at hSw); go_simp; try with_reducible rfl
          try simp only [Act.put, List.setIfInBounds_toArray, List.set_cons_zero, List.set_cons_succ]
          refine wpAnyH_take (i := 15) (v := ?v178) (ops_at rfl) (by kernel_rfl) (by kernel_rfl) (by kernel_rfl) (fun _ _ _ h => h) (Or.inl ⟨by rfl, ?hy178⟩) (by assumption) ?rest178
          case hy178 => intro w' hSw; (try dsimp only at hSw); go_simp; try with_reducible rfl
          try simp only [Act.put, List.setIfInBounds_toArray, List.set_cons_zero, List.set_cons_succ]
          refine wpAnyH_take (i := 16) (v := ?v179) (ops_at rfl) (by kernel_rfl) (by kernel_rfl) (by kernel_rfl) (fun _ _ _ h => h) (Or.inl ⟨by rfl, ?hy179⟩) (by assumption) ?rest179
          case hy179 => intro w' hSw; (try dsimp only at hSw); go_simp; try with_reducible rfl
          try simp only [Act.put, List.setIfInBounds_toArray, List.set_cons_zero, List.set_cons_succ]
          refine wpAnyH_take (i := 17) (v := ?v180) (ops_at rfl) (by kernel_rfl) (by kernel_rfl) (by kernel_rfl) (fun _ _ _ h => h) (Or.inl ⟨by rfl, ?hy180⟩) (by assumption) ?rest180
          case hy180 => intro w' hSw; (try dsimp only at hSw); go_simp; try with_reducible rfl
          try simp only [Act.put, List.setIfInBounds_toArray, List.set_cons_zero, List.set_cons_succ]
          refine wpAnyH_take (i := 19) (v := ?v181) (ops_at rfl) (by kernel_rfl) (by kernel_rfl) (by kernel_rfl) (fun _ _ _ h => h) (Or.inl ⟨by rfl, ?hy181⟩) (by assumption) ?rest181
          case hy181 => intro w' hSw; (try dsimp only at hSw); go_simp; try with_reducible rfl
          try simp only [Act.put, List.setIfInBounds_toArray, List.set_cons_zero, List.set_cons_succ]
          refine wpAnyH_take (i := 20) (v := ?v182) (ops_at rfl) (by kernel_rfl) (by kernel_rfl) (by kernel_rfl) (fun _ _ _ h => h) (Or.inl ⟨by rfl, ?hy182⟩) (by assumption) ?rest182
          case hy182 => intro w' hSw; (try dsimp only at hSw); go_simp; try with_reducible rfl
          try simp only [Act.put, List.setIfInBounds_toArray, List.set_cons_zero, List.set_cons_succ]
          refine wpAnyH_take (i := 21) (v := ?v183) (ops_at rfl) (by kernel_rfl) (by kernel_rfl) (by kernel_rfl) (fun _ _ _ h => h) (Or.inl ⟨by rfl, ?hy183⟩) (by assumption) ?rest183
          case hy183 => intro w' hSw; (try dsimp only at hSw); go_simp; try with_reducible rfl
          try simp only [Act.put, List.setIfInBounds_toArray, List.set_cons_zero, List.set_cons_succ]
          refine wpAnyH_take (i := 22) (v := ?v184) (ops_at rfl) (by kernel_rfl) (by kernel_rfl) (by kernel_rfl) (fun _ _ _ h => h) (Or.inl ⟨by rfl, ?hy184⟩) (by assumption) ?rest184
          case hy184 => intro w' hSw; (try dsimp only at hSw); go_simp; try with_reducible rfl
          try simp only [Act.put, List.setIfInBounds_toArray, List.set_cons_zero, List.set_cons_succ]
          refine wpAnyH_ready (rs := [18]) (by kernel_rfl) (by simp) ?_
          refine AllReadyH.cons (ops_at rfl) (fun K hK => ?_) AllReadyH.nil
          go_simp
          refine (room_any (by exact T5.front 4 rfl) (x.n : Int) (by omega) (by omega)).mono ?_
          rintro e w26 ⟨rfl, T6, -⟩
          refine hK.out _ _ (by exact T6.cell 6 rfl 2 rfl) (fun hHeld => ?_)
          clear hK K
          try simp only [Act.put, List.setIfInBounds_toArray, List.set_cons_zero, List.set_cons_succ]
          rw [HRm9.out]
          refine wpAnyH_take (i := 23) (v := ?v186) (ops_at rfl) (by kernel_rfl) (by kernel_rfl) (by kernel_rfl) (fun _ _ _ h => h) (Or.inl ⟨by rfl, ?hy186⟩) (by assumption) ?rest186
          case hy186 => intro w' hSw; (try dsimp only at hSw); go_simp; try with_reducible rfl
          try simp only [Act.put, List.setIfInBounds_toArray, List.set_cons_zero, List.set_cons_succ]
          refine wpAnyH_take (i := 24) (v := undef) (ops_at rfl) (by kernel_rfl) (by kernel_rfl) (by kernel_rfl) (fun _ _ _ h => h) (Or.inr ⟨by rfl, rfl⟩) (by assumption) ?rest187
          try simp only [Act.put, List.setIfInBounds_toArray, List.set_cons_zero, List.set_cons_succ]
          refine wpAnyH_take (i := 25) (v := undef) (ops_at rfl) (by kernel_rfl) (by kernel_rfl) (by kernel_rfl) (fun _ _ _ h => h) (Or.inr ⟨by rfl, rfl⟩) (by assumption) ?rest188
          try simp only [Act.put, List.setIfInBounds_toArray, List.set_cons_zero, List.set_cons_succ]
          refine wpAnyH_take (i := 26) (v := undef) (ops_at rfl) (by kernel_rfl) (by kernel_rfl) (by kernel_rfl) (fun _ _ _ h => h) (Or.inr ⟨by rfl, rfl⟩) (by assumption) ?rest189
          try simp only [Act.put, List.setIfInBounds_toArray, List.set_cons_zero, List.set_cons_succ]
          refine wpAnyH_take (i := 27) (v := undef) (ops_at rfl) (by kernel_rfl) (by kernel_rfl) (by kernel_rfl) (fun _ _ _ h => h) (Or.inr ⟨by rfl, rfl⟩) (by assumption) ?rest190
          try simp only [Act.put, List.setIfInBounds_toArray, List.set_cons_zero, List.set_cons_succ]
          refine wpAnyH_take (i := 28) (v := undef) (ops_at rfl) (by kernel_rfl) (by kernel_rfl) (by kernel_rfl) (fun _ _ _ h => h) (Or.inr ⟨by rfl, rfl⟩) (by assumption) ?rest191
          try simp only [Act.put, List.setIfInBounds_toArray, List.set_cons_zero, List.set_cons_succ]
          refine wpAnyH_take (i := 29) (v := undef) (ops_at rfl) (by kernel_rfl) (by kernel_rfl) (by kernel_rfl) (fun _ _ _ h => h) (Or.inr ⟨by rfl, rfl⟩) (by assumption) ?rest192
          try simp only [Act.put, List.setIfInBounds_toArray, List.set_cons_zero, List.set_cons_succ]
          refine wpAnyH_take (i := 30) (v := undef) (ops_at rfl) (by kernel_rfl) (by kernel_rfl) (by kernel_rfl) (fun _ _ _ h => h) (Or.inr ⟨by rfl, rfl⟩) (by assumption) ?rest193
          try simp only [Act.put, List.setIfInBounds_toArray, List.set_cons_zero, List.set_cons_succ]
          refine wpAnyH_take (i := 31) (v := undef) (ops_at rfl) (by kernel_rfl) (by kernel_rfl) (by kernel_rfl) (fun _ _ _ h => h) (Or.inr ⟨by rfl, rfl⟩) (by assumption) ?rest194
          try simp only [Act.put, List.setIfInBounds_toArray, List.set_cons_zero, List.set_cons_succ]
          refine wpAnyH_take (i := 32) (v := undef) (ops_at rfl) (by kernel_rfl) (by kernel_rfl) (by kernel_rfl) (fun _ _ _ h => h) (Or.inr ⟨by rfl, rfl⟩) (by assumption) ?rest195
          try simp only [Act.put, List.setIfInBounds_toArray, List.set_cons_zero, List.set_cons_succ]
          refine wpAnyH_take (i := 33) (v := ?v196) (ops_at rfl) (by kernel_rfl) (by kernel_rfl) (by kernel_rfl) (fun _ _ _ h => h) (Or.inl ⟨by rfl, ?hy196⟩) (by assumption) ?rest196
          case hy196 => intro w' hSw; (try dsimp only at hSw); go_simp; try with_reducible rfl
          try simp only [Act.put, List.setIfInBounds_toArray, List.set_cons_zero, List.set_cons_succ]
          refine wpAnyH_take (i := 34) (v := ?v197) (ops_at rfl) (by kernel_rfl) (by kernel_rfl) (by kernel_rfl) (fun _ _ _ h => h) (Or.inl ⟨by rfl, ?hy197⟩) (by assumption) ?rest197
          case hy197 => intro w' hSw; (try dsimp only at hSw); go_simp; try with_reducible rfl
          try simp only [Act.put, List.setIfInBounds_toArray, List.set_cons_zero, List.set_cons_succ]
          refine wpAnyH_take (i := 35) (v := ?v198) (ops_at rfl) (by kernel_rfl) (by kernel_rfl) (by kernel_rfl) (fun _ _ _ h => h) (Or.inl ⟨by rfl, ?hy198⟩) (by assumption) ?rest198
          case hy198 => intro w' hSw; (try dsimp only at hSw); go_simp; try with_reducible rfl
          try simp only [Act.put, List.setIfInBounds_toArray, List.set_cons_zero, List.set_cons_succ]
          refine wpAnyH_done (by kernel_rfl) ?_ _
          go_wp2
          go_roundw
          case rel => exact ⟨k + 1, v9, _, _, d9, r9, ys9, aY9, cY9, by omega, rfl, rfl, by go_num, HYs9.out, R9.out, ((((T6.front 4 rfl).front 3 rfl).front 4 rfl).front 5 rfl |>.front 4 rfl).take 5⟩
          case measure => simp [intOf]; omega
      · as_aux_lemma =>
          have q3 : decide ((0 : Int) < (x.n : Int)) = true := decide_eq_true (by omega)
          have q3n : decide (0 < x.n) = true := decide_eq_true (by omega)
          have hfl := HX.out.len
          have HRm9' := room_is (p := x.b) (sz := sz) (u := v9) (by omega) (by omega) R9.out.inv.le
          rw [HX.out.len] at HRm9'
          obtain ⟨b9, hb9⟩ : ∃ b, roomB sz v9 (x.n : Int) = b := ⟨_, rfl⟩
          have q4 : decide (((frameB x.b).length : Int) ≤ ((sz - v9 : Nat) : Int)) = b9 := by rw [← hb9, HRm9']
          have q4n : decide ((frameB x.b).length ≤ sz - v9) = b9 := by rw [← q4, decide_eq_decide]; omega
          have HRm9 := hid hb9
          have q5 : (b9 != b9) = false := by simp
          clear h0 hfl HRm9' hb9
          have lr := R9.out
          have hu9 := lr.inv.le
          have hr9 := lr.inv.room
          have hl9 := lr.len
          have hn9 := lr.few
          have hp9 := lr.psLen
          have hpn9 := lr.psNum
          rw [List.length_map] at hpn9
          have hw9 := lr.waits
          have hok9 : ∀ y ∈ ys9, y.l.length ≤ 4000 := fun y hy => (lr.inv.ok _ (List.mem_map_of_mem hy)).2
          have HOk9 := hid hok9
          have HU9 := hid lr.inv.len_
          have HB9 : Hid (d9.bytes = r9.bytes) := (lr.rel.bytes lr.inv.fit).symm
          have HBl9 : Hid (d9.bytes.length = n) := by rw [Hid, DSt.bytes, dAll_len _ _ lr.inv.fit]; exact lr.len
          have HRl9 : Hid (r9.b.length = n) := by rw [Hid, lr.rel.b]; exact lr.len
          clear hok9 lr
          have q1 : ((v9 : Int) != (v9 : Int)) = false := by simp
          have q2 : IntKind.i64.wrap ((sz : Int) - (v9 : Int)) = ((sz - v9 : Nat) : Int) := by rw [IntKind.wrap_i64]; omega
          go_wp2_with fail
          refine wp_region_held_drew (S := (fun w' => w'.cell? ⟨wr.heap.size, 2, none⟩ = some (.slice x.a x.n x.c))) (by kernel_rfl) (by exact S9.drew.cell 5 rfl 2 rfl) (fun hHeld => ?_)
          change wpAnyH _ _ _ _ _ 36 (Array.replicate 36 false) _ _
          refine wpAnyH_take (i := 0) (v := ?v199) (ops_at rfl) (by kernel_rfl) (by kernel_rfl) (by kernel_rfl) (fun _ _ _ h => h) (Or.inl ⟨by rfl, ?hy199⟩) (by assumption) ?rest199
          case hy199 => intro w' hSw; (try dsimp only at hSw); go_simp; try with_reducible rfl
          try simp only [Act.put, List.setIfInBounds_toArray, List.set_cons_zero, List.set_cons_succ]
          refine wpAnyH_take (i := 2) (v := ?v200) (ops_at rfl) (by kernel_rfl) (by kernel_rfl) (by kernel_rfl) (fun _ _ _ h => h) (Or.inl ⟨by rfl, ?hy200⟩) (by assumption) ?rest200
          case hy200 => intro w' hSw; (try dsimp only at hSw); go_simp; try with_reducible rfl
          try simp only [Act.put, List.setIfInBounds_toArray, List.set_cons_zero, List.set_cons_succ]
          refine wpAnyH_ready (rs := [1]) (by kernel_rfl) (by simp) ?_
          refine AllReadyH.cons (ops_at rfl) (fun K hK => ?_) AllReadyH.nil
          go_simp
          refine (logUsed_any S9.drew).mono ?_
          rintro e w21 ⟨rfl, rfl⟩
          refine hK.out _ _ (by exact S9.drew.cell 5 rfl 2 rfl) (fun hHeld => ?_)
          clear hK K
          try simp only [Act.put, List.setIfInBounds_toArray, List.set_cons_zero, List.set_cons_succ]
          refine wpAnyH_ready (rs := [3]) (by kernel_rfl) (by simp) ?_
          refine AllReadyH.cons (ops_at rfl) (fun K hK => ?_) AllReadyH.nil
          go_simp
          refine (rUsed_any (by exact (S9.drew.front 4 rfl).front 3 rfl) v9 HU9.out (by omega) HYs9.out HOk9.out).mono ?_
          rintro e w22 ⟨rfl, T2⟩
          refine hK.out _ _ (by exact T2.cell 5 rfl 2 rfl) (fun hHeld => ?_)
          clear hK K
          try simp only [Act.put, List.setIfInBounds_toArray, List.set_cons_zero, List.set_cons_succ]
          refine wpAnyH_take (i := 4) (v := ?v203) (ops_at rfl) (by kernel_rfl) (by kernel_rfl) (by kernel_rfl) (fun _ _ _ h => h) (Or.inl ⟨by rfl, ?hy203⟩) (by assumption) ?rest203
          case hy203 => intro w' hSw; (try dsimp only at hSw); go_simp; try with_reducible rfl
          try simp only [Act.put, List.setIfInBounds_toArray, List.set_cons_zero, List.set_cons_succ]
          refine wpAnyH_take (i := 5) (v := ?v204) (ops_at rfl) (by kernel_rfl) (by kernel_rfl) (by kernel_rfl) (fun _ _ _ h => h) (Or.inl ⟨by rfl, ?hy204⟩) (by assumption) ?rest204
          case hy204 => intro w' hSw; (try dsimp only at hSw); go_simp; try with_reducible rfl
          try simp only [Act.put, List.setIfInBounds_toArray, List.set_cons_zero, List.set_cons_succ]
          refine wpAnyH_take (i := 6) (v := ?v205) (ops_at rfl) (by kernel_rfl) (by kernel_rfl) (by kernel_rfl) (fun _ _ _ h => h) (Or.inl ⟨by rfl, ?hy205⟩) (by assumption) ?rest205
          case hy205 => intro w' hSw; (try dsimp only at hSw); go_simp; try with_reducible rfl
          try simp only [Act.put, List.setIfInBounds_toArray, List.set_cons_zero, List.set_cons_succ]
          refine wpAnyH_take (i := 8) (v := ?v206) (ops_at rfl) (by kernel_rfl) (by kernel_rfl) (by kernel_rfl) (fun _ _ _ h => h) (Or.inl ⟨by rfl, ?hy206⟩) (by assumption) ?rest206
          case hy206 => intro w' hSw; (try dsimp only at hSw); go_simp; try with_reducible rfl
          try simp only [Act.put, List.setIfInBounds_toArray, List.set_cons_zero, List.set_cons_succ]
          refine wpAnyH_ready (rs := [7]) (by kernel_rfl) (by simp) ?_
          refine AllReadyH.cons (ops_at rfl) (fun K hK => ?_) AllReadyH.nil
          go_simp
          refine (hbytes (by exact T2) 3 rfl (by omega) n HBl9.out).mono ?_
          rintro e w23 ⟨a23, c23, rfl, T3, -⟩
          refine hK.out _ _ (by exact T3.cell 5 rfl 2 rfl) (fun hHeld => ?_)
          clear hK K
          try simp only [Act.put, List.setIfInBounds_toArray, List.set_cons_zero, List.set_cons_succ]
          refine wpAnyH_ready (rs := [9]) (by kernel_rfl) (by simp) ?_
          refine AllReadyH.cons (ops_at rfl) (fun K hK => ?_) AllReadyH.nil
          go_simp
          refine (rdbytes_any (by exact T3.front 4 rfl) n HRl9.out (by omega)).mono ?_
          rintro e w24 ⟨a24, c24, rfl, T4, -⟩
          refine hK.out _ _ (by exact T4.cell 6 rfl 2 rfl) (fun hHeld => ?_)
          clear hK K
          try simp only [Act.put, List.setIfInBounds_toArray, List.set_cons_zero, List.set_cons_succ]
          refine wpAnyH_ready (rs := [10]) (by kernel_rfl) (by simp) ?_
          refine AllReadyH.cons (ops_at rfl) (fun K hK => ?_) AllReadyH.nil
          go_simp
          refine (hcmp T4 true a23 a24 d9.bytes r9.bytes n n c23 c24 (by rw [HB9.out]; simp) HBl9.out (by rw [← HB9.out]; exact HBl9.out) (by unfold maxLen; omega) (by unfold maxLen; omega) (by exact T4.at 7 rfl) (by exact T4.at 0 rfl)).mono ?_
          rintro e w25 ⟨rfl, T5, -⟩
          refine hK.out _ _ (by exact T5.cell 6 rfl 2 rfl) (fun hHeld => ?_)
          clear hK K
          try simp only [Act.put, List.setIfInBounds_toArray, List.set_cons_zero, List.set_cons_succ]
          refine wpAnyH_take (i := 11) (v := ?v210) (ops_at rfl) (by kernel_rfl) (by kernel_rfl) (by kernel_rfl) (fun _ _ _ h => h) (Or.inl ⟨by rfl, ?hy210⟩) (by assumption) ?rest210
          case hy210 => intro w' hSw; (try dsimp only at hSw); go_simp; try with_reducible rfl
          try simp only [Act.put, List.setIfInBounds_toArray, List.set_cons_zero, List.set_cons_succ]
          refine wpAnyH_take (i := 12) (v := ?v211) (ops_at rfl) (by kernel_rfl) (by kernel_rfl) (by kernel_rfl) (fun _ _ _ h => h) (Or.inl ⟨by rfl, ?hy211⟩) (by assumption) ?rest211
          case hy211 => intro w' hSw; (try dsimp only at hSw); go_simp; try with_reducible rfl
          try simp only [Act.put, List.setIfInBounds_toArray, List.set_cons_zero, List.set_cons_succ]
          refine wpAnyH_take (i := 13) (v := ?v212) (ops_at rfl) (by kernel_rfl) (by kernel_rfl) (by kernel_rfl) (fun _ _ _ h => h) (Or.inl ⟨by rfl, ?hy212⟩) (by assumption) ?rest212
          case hy212 => intro w' hSw; (try dsimp only at hSw); go_simp; try with_reducible rfl
          try simp only [Act.put, List.setIfInBounds_toArray, List.set_cons_zero, List.set_cons_succ]
          refine wpAnyH_take (i := 14) (v := ?v213) (ops_at rfl) (by kernel_rfl) (by kernel_rfl) (by kernel_rfl) (fun _ _ _ h => h) (Or.inl ⟨by rfl, ?hy213⟩) (by assumption) ?rest213
          case hy213 => intro w' hSw; (try dsimp only at hSw); go_simp; try with_reducible rfl
          try simp only [Act.put, List.setIfInBounds_toArray, List.set_cons_zero, List.set_cons_succ]
          refine wpAnyH_take (i := 15) (v := ?v214) (ops_at rfl) (by kernel_rfl) (by kernel_rfl) (by kernel_rfl) (fun _ _ _ h => h) (Or.inl ⟨by rfl, ?hy214⟩) (by assumption) ?rest214
          case hy214 => intro w' hSw; (try dsimp only at hSw); go_simp; try with_reducible rfl
          try simp only [Act.put, List.setIfInBounds_toArray, List.set_cons_zero, List.set_cons_succ]
          refine wpAnyH_take (i := 16) (v := ?v215) (ops_at rfl) (by kernel_rfl) (by kernel_rfl) (by kernel_rfl) (fun _ _ _ h => h) (Or.inl ⟨by rfl, ?hy215⟩) (by assumption) ?rest215
          case hy215 => intro w' hSw; (try dsimp only at hSw); go_simp; try with_reducible rfl
          try simp only [Act.put, List.setIfInBounds_toArray, List.set_cons_zero, List.set_cons_succ]
          refine wpAnyH_take (i := 17) (v := ?v216) (ops_at rfl) (by kernel_rfl) (by kernel_rfl) (by kernel_rfl) (fun _ _ _ h => h) (Or.inl ⟨by rfl, ?hy216⟩) (by assumption) ?rest216
          case hy216 => intro w' hSw; (try dsimp only at hSw); go_simp; try with_reducible rfl
          try simp only [Act.put, List.setIfInBounds_toArray, List.set_cons_zero, List.set_cons_succ]
          refine wpAnyH_take (i := 19) (v := ?v217) (ops_at rfl) (by kernel_rfl) (by kernel_rfl) (by kernel_rfl) (fun _ _ _ h => h) (Or.inl ⟨by rfl, ?hy217⟩) (by assumption) ?rest217
          case hy217 => intro w' hSw; (try dsimp only at hSw); go_simp; try with_reducible rfl
          try simp only [Act.put, List.setIfInBounds_toArray, List.set_cons_zero, List.set_cons_succ]
          refine wpAnyH_take (i := 20) (v := ?v218) (ops_at rfl) (by kernel_rfl) (by kernel_rfl) (by kernel_rfl) (fun _ _ _ h => h) (Or.inl ⟨by rfl, ?hy218⟩) (by assumption) ?rest218
          case hy218 => intro w' hSw; (try dsimp only at hSw); go_simp; try with_reducible rfl
          try simp only [Act.put, List.setIfInBounds_toArray, List.set_cons_zero, List.set_cons_succ]
          refine wpAnyH_take (i := 21) (v := ?v219) (ops_at rfl) (by kernel_rfl) (by kernel_rfl) (by kernel_rfl) (fun _ _ _ h => h) (Or.inl ⟨by rfl, ?hy219⟩) (by assumption) ?rest219
          case hy219 => intro w' hSw; (try dsimp only at hSw); go_simp; try with_reducible rfl
          try simp only [Act.put, List.setIfInBounds_toArray, List.set_cons_zero, List.set_cons_succ]
          refine wpAnyH_take (i := 22) (v := ?v220) (ops_at rfl) (by kernel_rfl) (by kernel_rfl) (by kernel_rfl) (fun _ _ _ h => h) (Or.inl ⟨by rfl, ?hy220⟩) (by assumption) ?rest220
          case hy220 => intro w' hSw; (try dsimp only at hSw); go_simp; try with_reducible rfl
          try simp only [Act.put, List.setIfInBounds_toArray, List.set_cons_zero, List.set_cons_succ]
          refine wpAnyH_ready (rs := [18]) (by kernel_rfl) (by simp) ?_
          refine AllReadyH.cons (ops_at rfl) (fun K hK => ?_) AllReadyH.nil
          go_simp
          refine (room_any (by exact T5.front 4 rfl) (x.n : Int) (by omega) (by omega)).mono ?_
          rintro e w26 ⟨rfl, T6, -⟩
          refine hK.out _ _ (by exact T6.cell 6 rfl 2 rfl) (fun hHeld => ?_)
          clear hK K
          try simp only [Act.put, List.setIfInBounds_toArray, List.set_cons_zero, List.set_cons_succ]
          rw [HRm9.out]
          refine wpAnyH_take (i := 23) (v := ?v222) (ops_at rfl) (by kernel_rfl) (by kernel_rfl) (by kernel_rfl) (fun _ _ _ h => h) (Or.inl ⟨by rfl, ?hy222⟩) (by assumption) ?rest222
          case hy222 => intro w' hSw; (try dsimp only at hSw); go_simp; try with_reducible rfl
          try simp only [Act.put, List.setIfInBounds_toArray, List.set_cons_zero, List.set_cons_succ]
          refine wpAnyH_take (i := 24) (v := ?v223) (ops_at rfl) (by kernel_rfl) (by kernel_rfl) (by kernel_rfl) (fun _ _ _ h => h) (Or.inl ⟨by rfl, ?hy223⟩) (by assumption) ?rest223
          case hy223 => intro w' hSw; (try dsimp only at hSw); go_simp; try with_reducible rfl
          try simp only [Act.put, List.setIfInBounds_toArray, List.set_cons_zero, List.set_cons_succ]
          refine wpAnyH_take (i := 25) (v := ?v224) (ops_at rfl) (by kernel_rfl) (by kernel_rfl) (by kernel_rfl) (fun _ _ _ h => h) (Or.inl ⟨by rfl, ?hy224⟩) (by assumption) ?rest224
          case hy224 => intro w' hSw; (try dsimp only at hSw); go_simp; try with_reducible rfl
          try simp only [Act.put, List.setIfInBounds_toArray, List.set_cons_zero, List.set_cons_succ]
          refine wpAnyH_take (i := 28) (v := ?v225) (ops_at rfl) (by kernel_rfl) (by kernel_rfl) (by kernel_rfl) (fun _ _ _ h => h) (Or.inl ⟨by rfl, ?hy225⟩) (by assumption) ?rest225
          case hy225 => intro w' hSw; (try dsimp only at hSw); go_simp; try with_reducible rfl
          try simp only [Act.put, List.setIfInBounds_toArray, List.set_cons_zero, List.set_cons_succ]
          refine wpAnyH_take (i := 29) (v := ?v226) (ops_at rfl) (by kernel_rfl) (by kernel_rfl) (by kernel_rfl) (fun _ _ _ h => h) (Or.inl ⟨by rfl, ?hy226⟩) (by assumption) ?rest226
          case hy226 => intro w' hSw; (try dsimp only at hSw); go_simp; try with_reducible rfl
          try simp only [Act.put, List.setIfInBounds_toArray, List.set_cons_zero, List.set_cons_succ]
          refine wpAnyH_ready (rs := [26]) (by kernel_rfl) (by simp) ?_
          refine AllReadyH.cons (ops_at rfl) (fun K hK => ?_) AllReadyH.nil
          go_simp
          refine (rfrPut_any x.a x.b x.n x.c _ HX.out.len (by omega) (by exact T6.old HX.out.isAt)).mono ?_
          rintro e w27 ⟨a27, c27, rfl, -, hb27⟩
          have T7 := T6.grow hb27
          refine hK.out _ _ (by exact T7.cell 6 rfl 2 rfl) (fun hHeld => ?_)
          clear hK K
          try simp only [Act.put, List.setIfInBounds_toArray, List.set_cons_zero, List.set_cons_succ]
          refine wpAnyH_take (i := 27) (v := ?v228) (ops_at rfl) (by kernel_rfl) (by kernel_rfl) (by kernel_rfl) (fun _ _ _ h => h) (Or.inl ⟨by rfl, ?hy228⟩) (by assumption) ?rest228
          case hy228 => intro w' hSw; (try dsimp only at hSw); go_simp; try with_reducible rfl
          try simp only [Act.put, List.setIfInBounds_toArray, List.set_cons_zero, List.set_cons_succ]
          refine wpAnyH_ready (rs := [30]) (by kernel_rfl) (by simp) ?_
          refine AllReadyH.cons (ops_at rfl) (fun K hK => ?_) AllReadyH.nil
          go_simp
          refine (rUsed_any (by exact (T7.front 4 rfl).front 4 rfl) v9 HU9.out (by omega) HYs9.out HOk9.out).mono ?_
          rintro e w28 ⟨rfl, T8⟩
          refine hK.out _ _ (by exact T8.cell 6 rfl 2 rfl) (fun hHeld => ?_)
          clear hK K
          try simp only [Act.put, List.setIfInBounds_toArray, List.set_cons_zero, List.set_cons_succ]
          refine wpAnyH_take (i := 31) (v := ?v230) (ops_at rfl) (by kernel_rfl) (by kernel_rfl) (by kernel_rfl) (fun _ _ _ h => h) (Or.inl ⟨by rfl, ?hy230⟩) (by assumption) ?rest230
          case hy230 => intro w' hSw; (try dsimp only at hSw); go_simp; try with_reducible rfl
          try simp only [Act.put, List.setIfInBounds_toArray, List.set_cons_zero, List.set_cons_succ]
          refine wpAnyH_take (i := 32) (v := ?v231) (ops_at rfl) (by kernel_rfl) (by kernel_rfl) (by kernel_rfl) (fun _ _ _ h => h) (Or.inl ⟨by rfl, ?hy231⟩) (by assumption) ?rest231
          case hy231 => intro w' hSw; (try dsimp only at hSw); go_simp; try with_reducible rfl
          try simp only [Act.put, List.setIfInBounds_toArray, List.set_cons_zero, List.set_cons_succ]
          refine wpAnyH_take (i := 33) (v := ?v232) (ops_at rfl) (by kernel_rfl) (by kernel_rfl) (by kernel_rfl) (fun _ _ _ h => h) (Or.inl ⟨by rfl, ?hy232⟩) (by assumption) ?rest232
          case hy232 => intro w' hSw; (try dsimp only at hSw); go_simp; try with_reducible rfl
          try simp only [Act.put, List.setIfInBounds_toArray, List.set_cons_zero, List.set_cons_succ]
          refine wpAnyH_take (i := 34) (v := ?v233) (ops_at rfl) (by kernel_rfl) (by kernel_rfl) (by kernel_rfl) (fun _ _ _ h => h) (Or.inl ⟨by rfl, ?hy233⟩) (by assumption) ?rest233
          case hy233 => intro w' hSw; (try dsimp only at hSw); go_simp; try with_reducible rfl
          try simp only [Act.put, List.setIfInBounds_toArray, List.set_cons_zero, List.set_cons_succ]
          refine wpAnyH_take (i := 35) (v := ?v234) (ops_at rfl) (by kernel_rfl) (by kernel_rfl) (by kernel_rfl) (fun _ _ _ h => h) (Or.inl ⟨by rfl, ?hy234⟩) (by assumption) ?rest234
          case hy234 => intro w' hSw; (try dsimp only at hSw); go_simp; try with_reducible rfl
          try simp only [Act.put, List.setIfInBounds_toArray, List.set_cons_zero, List.set_cons_succ]
          refine wpAnyH_done (by kernel_rfl) ?_ _
          go_wp2
          go_roundw
          case rel => exact ⟨k + 1, v9, _, _, d9, r9, ys9, aY9, cY9, by omega, rfl, rfl, by go_num, HYs9.out, R9.out, ((((T8.front 1 rfl).front 4 rfl |>.front 2 rfl).front 5 rfl).front 4 rfl).take 5⟩
          case measure => simp [intOf]; omega
    have g3' : (x.kind == 3) = false := by simpa using hk3
    by_cases hk2 : x.kind = 2
    · have g2' : (x.kind == 2) = true := by simpa using hk2
      clear hk0 hk1 hk3 hk2
      have hap := HR.out.put x.b
      obtain ⟨LA, hLA⟩ : ∃ LA, logPut d fr sz u x.b = LA := ⟨_, rfl⟩
      obtain ⟨RP, hRP⟩ : ∃ RP, rlogPut fr sz r (xs.map BS.l) x.b = RP := ⟨_, rfl⟩
      rw [hLA, hRP] at hap
      have tq2 : (LA.1 != RP.1) = false := by rw [hap.1]; simp
      have HAp := hid hap.2
      have HLA := hid hLA
      have HRP := hid hRP
      clear hap hLA hRP
      go_wp2_with fail
      refine wp_region_held_drew (S := (fun w' => w'.cell? ⟨wr.heap.size, 2, none⟩ = some (.slice x.a x.n x.c) ∧ w'.cell? ⟨wr.heap.size, 0, none⟩ = some (.int .i64 x.kind))) (by kernel_rfl) (by exact ⟨S5.drew.cell 5 rfl 2 rfl, S5.drew.cell 5 rfl 0 rfl⟩) (fun hHeld => ?_)
      change wpAnyH _ _ _ _ _ 14 (Array.replicate 14 false) _ _
      refine wpAnyH_take (i := 0) (v := ?v235) (ops_at rfl) (by kernel_rfl) (by kernel_rfl) (by kernel_rfl) (fun _ _ _ h => h) (Or.inl ⟨by rfl, ?hy235⟩) (by assumption) ?rest235
      case hy235 => intro w' hSw; (try dsimp only at hSw); go_simp; try with_reducible rfl
      try simp only [Act.put, List.setIfInBounds_toArray, List.set_cons_zero, List.set_cons_succ]
      refine wpAnyH_take (i := 1) (v := ?v236) (ops_at rfl) (by kernel_rfl) (by kernel_rfl) (by kernel_rfl) (fun _ _ _ h => h) (Or.inl ⟨by rfl, ?hy236⟩) (by assumption) ?rest236
      case hy236 => intro w' hSw; (try dsimp only at hSw); go_simp; try with_reducible rfl
      try simp only [Act.put, List.setIfInBounds_toArray, List.set_cons_zero, List.set_cons_succ]
      refine wpAnyH_take (i := 2) (v := ?v237) (ops_at rfl) (by kernel_rfl) (by kernel_rfl) (by kernel_rfl) (fun _ _ _ h => h) (Or.inl ⟨by rfl, ?hy237⟩) (by assumption) ?rest237
      case hy237 => intro w' hSw; (try dsimp only at hSw); go_simp; try with_reducible rfl
      try simp only [Act.put, List.setIfInBounds_toArray, List.set_cons_zero, List.set_cons_succ]
      refine wpAnyH_take (i := 3) (v := ?v238) (ops_at rfl) (by kernel_rfl) (by kernel_rfl) (by kernel_rfl) (fun _ _ _ h => h) (Or.inl ⟨by rfl, ?hy238⟩) (by assumption) ?rest238
      case hy238 => intro w' hSw; (try dsimp only at hSw); go_simp; try with_reducible rfl
      try simp only [Act.put, List.setIfInBounds_toArray, List.set_cons_zero, List.set_cons_succ]
      refine wpAnyH_take (i := 4) (v := ?v239) (ops_at rfl) (by kernel_rfl) (by kernel_rfl) (by kernel_rfl) (fun _ _ _ h => h) (Or.inl ⟨by rfl, ?hy239⟩) (by assumption) ?rest239
      case hy239 => intro w' hSw; (try dsimp only at hSw); go_simp; try with_reducible rfl
      try simp only [Act.put, List.setIfInBounds_toArray, List.set_cons_zero, List.set_cons_succ]
      refine wpAnyH_take (i := 5) (v := ?v240) (ops_at rfl) (by kernel_rfl) (by kernel_rfl) (by kernel_rfl) (fun _ _ _ h => h) (Or.inl ⟨by rfl, ?hy240⟩) (by assumption) ?rest240
      case hy240 => intro w' hSw; (try dsimp only at hSw); go_simp; try with_reducible rfl
      try simp only [Act.put, List.setIfInBounds_toArray, List.set_cons_zero, List.set_cons_succ]
      refine wpAnyH_take (i := 6) (v := ?v241) (ops_at rfl) (by kernel_rfl) (by kernel_rfl) (by kernel_rfl) (fun _ _ _ h => h) (Or.inl ⟨by rfl, ?hy241⟩) (by assumption) ?rest241
      case hy241 => intro w' hSw; (try dsimp only at hSw); go_simp; try with_reducible rfl
      try simp only [Act.put, List.setIfInBounds_toArray, List.set_cons_zero, List.set_cons_succ]
      refine wpAnyH_take (i := 8) (v := ?v242) (ops_at rfl) (by kernel_rfl) (by kernel_rfl) (by kernel_rfl) (fun _ _ _ h => h) (Or.inl ⟨by rfl, ?hy242⟩) (by assumption) ?rest242
      case hy242 => intro w' hSw; (try dsimp only at hSw); go_simp; try with_reducible rfl
      try simp only [Act.put, List.setIfInBounds_toArray, List.set_cons_zero, List.set_cons_succ]
      refine wpAnyH_take (i := 9) (v := ?v243) (ops_at rfl) (by kernel_rfl) (by kernel_rfl) (by kernel_rfl) (fun _ _ _ h => h) (Or.inl ⟨by rfl, ?hy243⟩) (by assumption) ?rest243
      case hy243 => intro w' hSw; (try dsimp only at hSw); go_simp; try with_reducible rfl
      try simp only [Act.put, List.setIfInBounds_toArray, List.set_cons_zero, List.set_cons_succ]
      refine wpAnyH_take (i := 10) (v := ?v244) (ops_at rfl) (by kernel_rfl) (by kernel_rfl) (by kernel_rfl) (fun _ _ _ h => h) (Or.inl ⟨by rfl, ?hy244⟩) (by assumption) ?rest244
      case hy244 => intro w' hSw; (try dsimp only at hSw); go_simp; try with_reducible rfl
      try simp only [Act.put, List.setIfInBounds_toArray, List.set_cons_zero, List.set_cons_succ]
      refine wpAnyH_ready (rs := [7]) (by kernel_rfl) (by simp) ?_
      refine AllReadyH.cons (ops_at rfl) (fun K hK => ?_) AllReadyH.nil
      go_simp
      have hA3 := logPut_any (by exact S5.drew) x.a x.b x.n x.c hlen (by unfold maxLen; omega) HX.out.le HX.out.nil (Reads.old HX.out.isAt) (by omega) lle (by omega)
      rw [HLA.out] at hA3
      refine hA3.mono ?_
      rintro e w10 ⟨rfl, T10⟩
      clear hA3
      refine hK.out _ _ (by exact ⟨T10.cell 5 rfl 2 rfl, T10.cell 5 rfl 0 rfl⟩) (fun hHeld => ?_)
      clear hK K
      try simp only [Act.put, List.setIfInBounds_toArray, List.set_cons_zero, List.set_cons_succ]
      refine wpAnyH_ready (rs := [11]) (by kernel_rfl) (by simp) ?_
      refine AllReadyH.cons (ops_at rfl) (fun K hK => ?_) AllReadyH.nil
      go_simp
      have hA3 := rPut_any (by exact ((T10.front 4 rfl).front 4 rfl).front 4 rfl) x.a x.b x.n x.c hlen (by omega) HX.out.le HX.out.nil (Reads.old HX.out.isAt) HXs.out HOk5.out (by rw [HU5.out]; omega) (by omega) (by omega) (by omega)
      rw [HRP.out] at hA3
      refine hA3.mono ?_
      rintro e w11 ⟨ys8, aY8, cY8, rfl, hys, hyd, T11⟩
      clear hA3
      refine hK.out _ _ (by exact ⟨T11.cell 5 rfl 2 rfl, T11.cell 5 rfl 0 rfl⟩) (fun hHeld => ?_)
      clear hK K
      try simp only [Act.put, List.setIfInBounds_toArray, List.set_cons_zero, List.set_cons_succ]
      refine wpAnyH_take (i := 12) (v := ?v247) (ops_at rfl) (by kernel_rfl) (by kernel_rfl) (by kernel_rfl) (fun _ _ _ h => h) (Or.inl ⟨by rfl, ?hy247⟩) (by assumption) ?rest247
      case hy247 => intro w' hSw; (try dsimp only at hSw); go_simp; try with_reducible rfl
      try simp only [Act.put, List.setIfInBounds_toArray, List.set_cons_zero, List.set_cons_succ]
      refine wpAnyH_take (i := 13) (v := ?v248) (ops_at rfl) (by kernel_rfl) (by kernel_rfl) (by kernel_rfl) (fun _ _ _ h => h) (Or.inl ⟨by rfl, ?hy248⟩) (by assumption) ?rest248
      case hy248 => intro w' hSw; (try dsimp only at hSw); go_simp; try with_reducible rfl
      try simp only [Act.put, List.setIfInBounds_toArray, List.set_cons_zero, List.set_cons_succ]
      refine wpAnyH_done (by kernel_rfl) ?_ _
      have S8 : St w w11 [cellsT g 81 (logC pd fr sz LA.2.2), diskT pd LA.2.1, cellsT h 69 (rlogC pr fr sz (.slice aY8 ys8.length cY8)), rdT pr RP.2.1, rowsT eS bsRefs (.slice aY8 ys8.length cY8) ys8, cellsT wr.heap.size 34 [.int .i64 x.kind, .int .i64 x.keep, .slice x.a x.n x.c]] := (T11.front 4 rfl).front 4 rfl
      have R8 := hid (HAp.out.le (j := 2 + 2 * k) (by omega))
      obtain ⟨v8, hv8⟩ : ∃ v8, LA.2.2 = v8 := ⟨_, rfl⟩
      obtain ⟨d8, hd8⟩ : ∃ d8, LA.2.1 = d8 := ⟨_, rfl⟩
      obtain ⟨r8, hr8⟩ : ∃ r8, RP.2.1 = r8 := ⟨_, rfl⟩
      rw [hv8, hd8, hr8] at S8 R8
      clear T10 T11 hys hyd hv8 hd8 hr8
      have dk := (R8.out).disk.crash x.keep
      have hp8 := R8.out.disk.psLen
      have hw8 := R8.out.waits
      have hp8' := dk.psLen
      have hs8' : (r8.crash x.keep).syncs < 100000000 := by show r8.syncs < _; rw [R8.out.rel.syncs]; have := R8.out.syncs; omega
      have x8 := S8.cell 5 rfl 1 rfl
      go_wp2_with fail
      refine (hcrash S8 1 rfl x.keep HX.out.k0 HX.out.k1 (by omega)).mono ?_
      rintro e w11 ⟨rfl, T11⟩
      have x11 := T11.cell 5 rfl 1 rfl
      go_wp2_with fail
      refine (rdcrash_any (by exact T11.front 3 rfl) x.keep (by omega)).mono ?_
      rintro e w12 ⟨rfl, T12⟩
      obtain ⟨ps9, v9, e91, e92, e93, e94⟩ := logOpen_rel (by exact T12.front 2 rfl) dk hsz hr (by omega)
      go_wp2_with fail
      refine e94.mono ?_
      rintro e w13 ⟨g9, a13, c13, qs, d9, rfl, hqs, hqd, hR9, T13⟩
      go_wp2_with fail
      refine (rOpen_yes (r := r8.crash x.keep) (by exact T13.front 3 rfl) fr sz hsz (by rw [dk.rel.b, dk.len]; exact hr) (by omega) hs8' e93 e91 e92).mono ?_
      rintro e w14 ⟨h9, aY9, cY9, ys9, rfl, hys, hyd, T14⟩
      have y14 := T14.cell 0 rfl 3 rfl
      have hpn14 := hR9.psNum
      have hyl : ps9.length = ys9.length := by rw [← hys, List.length_map]
      rw [hyl] at T14 hpn14 ⊢
      have HYs9 := hid hyd
      have HQd := hid hqd
      have tq : (qs.map BS.l == ys9.map BS.l) = true := by rw [hqs, hys]; simp
      rw [← hys] at hR9
      obtain ⟨r9, hr9e⟩ : ∃ r, (r8.crash x.keep).nought fr sz v9 = r := ⟨_, rfl⟩
      rw [hr9e] at hR9 T14
      have R9 := hid (hR9.le (j := 1 + 2 * (k + 1)) (by omega))
      clear hyd hqd hys hqs hyl hR9 hr9e e91 e93 e94 dk
      go_wp2_with fail
      refine (same_rows2 (by exact T14) (k := 5) (j := 2) rfl HQd.out rfl HYs9.out (by omega) (by omega)).mono ?_
      rintro e w15 ⟨rfl, T15⟩
      rw [tq]
      have S9 : St w w15 [cellsT g9 81 (logC pd fr sz v9), diskT pd d9, cellsT h9 69 (rlogC pr fr sz (.slice aY9 ys9.length cY9)), rdT pr r9, rowsT eS bsRefs (.slice aY9 ys9.length cY9) ys9, cellsT wr.heap.size 34 [.int .i64 x.kind, .int .i64 x.keep, .slice x.a x.n x.c]] :=
        (((((T15.front 9 rfl).front 3 rfl).front 3 rfl).front 3 rfl |>.front 5 rfl).front 5 rfl).take 6
      clear T11 T12 T13 T14 T15 y14
      by_cases h0 : x.n = 0
      · as_aux_lemma =>
          have q3 : decide ((0 : Int) < (x.n : Int)) = false := decide_eq_false (by omega)
          have q3n : decide (0 < x.n) = false := decide_eq_false (by omega)
          have HRm9 : Hid (roomB sz v9 (x.n : Int) = false) := by rw [Hid]; unfold roomB; rw [h0]; simp
          clear h0
          have lr := R9.out
          have hu9 := lr.inv.le
          have hr9 := lr.inv.room
          have hl9 := lr.len
          have hn9 := lr.few
          have hp9 := lr.psLen
          have hpn9 := lr.psNum
          rw [List.length_map] at hpn9
          have hw9 := lr.waits
          have hok9 : ∀ y ∈ ys9, y.l.length ≤ 4000 := fun y hy => (lr.inv.ok _ (List.mem_map_of_mem hy)).2
          have HOk9 := hid hok9
          have HU9 := hid lr.inv.len_
          have HB9 : Hid (d9.bytes = r9.bytes) := (lr.rel.bytes lr.inv.fit).symm
          have HBl9 : Hid (d9.bytes.length = n) := by rw [Hid, DSt.bytes, dAll_len _ _ lr.inv.fit]; exact lr.len
          have HRl9 : Hid (r9.b.length = n) := by rw [Hid, lr.rel.b]; exact lr.len
          clear hok9 lr
          have q1 : ((v9 : Int) != (v9 : Int)) = false := by simp
          have q2 : IntKind.i64.wrap ((sz : Int) - (v9 : Int)) = ((sz - v9 : Nat) : Int) := by rw [IntKind.wrap_i64]; omega
          go_wp2_with fail
          refine wp_region_held_drew (S := (fun w' => w'.cell? ⟨wr.heap.size, 2, none⟩ = some (.slice x.a x.n x.c))) (by kernel_rfl) (by exact S9.drew.cell 5 rfl 2 rfl) (fun hHeld => ?_)
          change wpAnyH _ _ _ _ _ 36 (Array.replicate 36 false) _ _
          refine wpAnyH_take (i := 0) (v := ?v249) (ops_at rfl) (by kernel_rfl) (by kernel_rfl) (by kernel_rfl) (fun _ _ _ h => h) (Or.inl ⟨by rfl, ?hy249⟩) (by assumption) ?rest249
          case hy249 => intro w' hSw; (try dsimp only at hSw); go_simp; try with_reducible rfl
          try simp only [Act.put, List.setIfInBounds_toArray, List.set_cons_zero, List.set_cons_succ]
          refine wpAnyH_take (i := 2) (v := ?v250) (ops_at rfl) (by kernel_rfl) (by kernel_rfl) (by kernel_rfl) (fun _ _ _ h => h) (Or.inl ⟨by rfl, ?hy250⟩) (by assumption) ?rest250
          case hy250 => intro w' hSw; (try dsimp only at hSw); go_simp; try with_reducible rfl
          try simp only [Act.put, List.setIfInBounds_toArray, List.set_cons_zero, List.set_cons_succ]
          refine wpAnyH_ready (rs := [1]) (by kernel_rfl) (by simp) ?_
          refine AllReadyH.cons (ops_at rfl) (fun K hK => ?_) AllReadyH.nil
          go_simp
          refine (logUsed_any S9.drew).mono ?_
          rintro e w21 ⟨rfl, rfl⟩
          refine hK.out _ _ (by exact S9.drew.cell 5 rfl 2 rfl) (fun hHeld => ?_)
          clear hK K
          try simp only [Act.put, List.setIfInBounds_toArray, List.set_cons_zero, List.set_cons_succ]
          refine wpAnyH_ready (rs := [3]) (by kernel_rfl) (by simp) ?_
          refine AllReadyH.cons (ops_at rfl) (fun K hK => ?_) AllReadyH.nil
          go_simp
          refine (rUsed_any (by exact (S9.drew.front 4 rfl).front 3 rfl) v9 HU9.out (by omega) HYs9.out HOk9.out).mono ?_
          rintro e w22 ⟨rfl, T2⟩
          refine hK.out _ _ (by exact T2.cell 5 rfl 2 rfl) (fun hHeld => ?_)
          clear hK K
          try simp only [Act.put, List.setIfInBounds_toArray, List.set_cons_zero, List.set_cons_succ]
          refine wpAnyH_take (i := 4) (v := ?v253) (ops_at rfl) (by kernel_rfl) (by kernel_rfl) (by kernel_rfl) (fun _ _ _ h => h) (Or.inl ⟨by rfl, ?hy253⟩) (by assumption) ?rest253
          case hy253 => intro w' hSw; (try dsimp only at hSw); go_simp; try with_reducible rfl
          try simp only [Act.put, List.setIfInBounds_toArray, List.set_cons_zero, List.set_cons_succ]
          refine wpAnyH_take (i := 5) (v := ?v254) (ops_at rfl) (by kernel_rfl) (by kernel_rfl) (by kernel_rfl) (fun _ _ _ h => h) (Or.inl ⟨by rfl, ?hy254⟩) (by assumption) ?rest254
          case hy254 => intro w' hSw; (try dsimp only at hSw); go_simp; try with_reducible rfl
          try simp only [Act.put, List.setIfInBounds_toArray, List.set_cons_zero, List.set_cons_succ]
          refine wpAnyH_take (i := 6) (v := ?v255) (ops_at rfl) (by kernel_rfl) (by kernel_rfl) (by kernel_rfl) (fun _ _ _ h => h) (Or.inl ⟨by rfl, ?hy255⟩) (by assumption) ?rest255
          case hy255 => intro w' hSw; (try dsimp only at hSw); go_simp; try with_reducible rfl
          try simp only [Act.put, List.setIfInBounds_toArray, List.set_cons_zero, List.set_cons_succ]
          refine wpAnyH_take (i := 8) (v := ?v256) (ops_at rfl) (by kernel_rfl) (by kernel_rfl) (by kernel_rfl) (fun _ _ _ h => h) (Or.inl ⟨by rfl, ?hy256⟩) (by assumption) ?rest256
          case hy256 => intro w' hSw; (try dsimp only at hSw); go_simp; try with_reducible rfl
          try simp only [Act.put, List.setIfInBounds_toArray, List.set_cons_zero, List.set_cons_succ]
          refine wpAnyH_ready (rs := [7]) (by kernel_rfl) (by simp) ?_
          refine AllReadyH.cons (ops_at rfl) (fun K hK => ?_) AllReadyH.nil
          go_simp
          refine (hbytes (by exact T2) 3 rfl (by omega) n HBl9.out).mono ?_
          rintro e w23 ⟨a23, c23, rfl, T3, -⟩
          refine hK.out _ _ (by exact T3.cell 5 rfl 2 rfl) (fun hHeld => ?_)
          clear hK K
          try simp only [Act.put, List.setIfInBounds_toArray, List.set_cons_zero, List.set_cons_succ]
          refine wpAnyH_ready (rs := [9]) (by kernel_rfl) (by simp) ?_
          refine AllReadyH.cons (ops_at rfl) (fun K hK => ?_) AllReadyH.nil
          go_simp
          refine (rdbytes_any (by exact T3.front 4 rfl) n HRl9.out (by omega)).mono ?_
          rintro e w24 ⟨a24, c24, rfl, T4, -⟩
          refine hK.out _ _ (by exact T4.cell 6 rfl 2 rfl) (fun hHeld => ?_)
          clear hK K
          try simp only [Act.put, List.setIfInBounds_toArray, List.set_cons_zero, List.set_cons_succ]
          refine wpAnyH_ready (rs := [10]) (by kernel_rfl) (by simp) ?_
          refine AllReadyH.cons (ops_at rfl) (fun K hK => ?_) AllReadyH.nil
          go_simp
          refine (hcmp T4 true a23 a24 d9.bytes r9.bytes n n c23 c24 (by rw [HB9.out]; simp) HBl9.out (by rw [← HB9.out]; exact HBl9.out) (by unfold maxLen; omega) (by unfold maxLen; omega) (by exact T4.at 7 rfl) (by exact T4.at 0 rfl)).mono ?_
          rintro e w25 ⟨rfl, T5, -⟩
          refine hK.out _ _ (by exact T5.cell 6 rfl 2 rfl) (fun hHeld => ?_)
          clear hK K
          try simp only [Act.put, List.setIfInBounds_toArray, List.set_cons_zero, List.set_cons_succ]
          refine wpAnyH_take (i := 11) (v := ?v260) (ops_at rfl) (by kernel_rfl) (by kernel_rfl) (by kernel_rfl) (fun _ _ _ h => h) (Or.inl ⟨by rfl, ?hy260⟩) (by assumption) ?rest260
          case hy260 => intro w' hSw; (try dsimp only at hSw); go_simp; try with_reducible rfl
          try simp only [Act.put, List.setIfInBounds_toArray, List.set_cons_zero, List.set_cons_succ]
          refine wpAnyH_take (i := 12) (v := ?v261) (ops_at rfl) (by kernel_rfl) (by kernel_rfl) (by kernel_rfl) (fun _ _ _ h => h) (Or.inl ⟨by rfl, ?hy261⟩) (by assumption) ?rest261
          case hy261 => intro w' hSw; (try dsimp only at hSw); go_simp; try with_reducible rfl
          try simp only [Act.put, List.setIfInBounds_toArray, List.set_cons_zero, List.set_cons_succ]
          refine wpAnyH_take (i := 13) (v := ?v262) (ops_at rfl) (by kernel_rfl) (by kernel_rfl) (by kernel_rfl) (fun _ _ _ h => h) (Or.inl ⟨by rfl, ?hy262⟩) (by assumption) ?rest262
          case hy262 => intro w' hSw; (try dsimp only at hSw); go_simp; try with_reducible rfl
          try simp only [Act.put, List.setIfInBounds_toArray, List.set_cons_zero, List.set_cons_succ]
          refine wpAnyH_take (i := 14) (v := ?v263) (ops_at rfl) (by kernel_rfl) (by kernel_rfl) (by kernel_rfl) (fun _ _ _ h => h) (Or.inl ⟨by rfl, ?hy263⟩) (by assumption) ?rest263
          case hy263 => intro w' hSw; (try dsimp only at hSw); go_simp; try with_reducible rfl
          try simp only [Act.put, List.setIfInBounds_toArray, List.set_cons_zero, List.set_cons_succ]
          refine wpAnyH_take (i := 15) (v := ?v264) (ops_at rfl) (by kernel_rfl) (by kernel_rfl) (by kernel_rfl) (fun _ _ _ h => h) (Or.inl ⟨by rfl, ?hy264⟩) (by assumption) ?rest264
          case hy264 => intro w' hSw; (try dsimp only at hSw); go_simp; try with_reducible rfl
          try simp only [Act.put, List.setIfInBounds_toArray, List.set_cons_zero, List.set_cons_succ]
          refine wpAnyH_take (i := 16) (v := ?v265) (ops_at rfl) (by kernel_rfl) (by kernel_rfl) (by kernel_rfl) (fun _ _ _ h => h) (Or.inl ⟨by rfl, ?hy265⟩) (by assumption) ?rest265
          case hy265 => intro w' hSw; (try dsimp only at hSw); go_simp; try with_reducible rfl
          try simp only [Act.put, List.setIfInBounds_toArray, List.set_cons_zero, List.set_cons_succ]
          refine wpAnyH_take (i := 17) (v := ?v266) (ops_at rfl) (by kernel_rfl) (by kernel_rfl) (by kernel_rfl) (fun _ _ _ h => h) (Or.inl ⟨by rfl, ?hy266⟩) (by assumption) ?rest266
          case hy266 => intro w' hSw; (try dsimp only at hSw); go_simp; try with_reducible rfl
          try simp only [Act.put, List.setIfInBounds_toArray, List.set_cons_zero, List.set_cons_succ]
          refine wpAnyH_take (i := 19) (v := ?v267) (ops_at rfl) (by kernel_rfl) (by kernel_rfl) (by kernel_rfl) (fun _ _ _ h => h) (Or.inl ⟨by rfl, ?hy267⟩) (by assumption) ?rest267
          case hy267 => intro w' hSw; (try dsimp only at hSw); go_simp; try with_reducible rfl
          try simp only [Act.put, List.setIfInBounds_toArray, List.set_cons_zero, List.set_cons_succ]
          refine wpAnyH_take (i := 20) (v := ?v268) (ops_at rfl) (by kernel_rfl) (by kernel_rfl) (by kernel_rfl) (fun _ _ _ h => h) (Or.inl ⟨by rfl, ?hy268⟩) (by assumption) ?rest268
          case hy268 => intro w' hSw; (try dsimp only at hSw); go_simp; try with_reducible rfl
          try simp only [Act.put, List.setIfInBounds_toArray, List.set_cons_zero, List.set_cons_succ]
          refine wpAnyH_take (i := 21) (v := ?v269) (ops_at rfl) (by kernel_rfl) (by kernel_rfl) (by kernel_rfl) (fun _ _ _ h => h) (Or.inl ⟨by rfl, ?hy269⟩) (by assumption) ?rest269
          case hy269 => intro w' hSw; (try dsimp only at hSw); go_simp; try with_reducible rfl
          try simp only [Act.put, List.setIfInBounds_toArray, List.set_cons_zero, List.set_cons_succ]
          refine wpAnyH_take (i := 22) (v := ?v270) (ops_at rfl) (by kernel_rfl) (by kernel_rfl) (by kernel_rfl) (fun _ _ _ h => h) (Or.inl ⟨by rfl, ?hy270⟩) (by assumption) ?rest270
          case hy270 => intro w' hSw; (try dsimp only at hSw); go_simp; try with_reducible rfl
          try simp only [Act.put, List.setIfInBounds_toArray, List.set_cons_zero, List.set_cons_succ]
          refine wpAnyH_ready (rs := [18]) (by kernel_rfl) (by simp) ?_
          refine AllReadyH.cons (ops_at rfl) (fun K hK => ?_) AllReadyH.nil
          go_simp
          refine (room_any (by exact T5.front 4 rfl) (x.n : Int) (by omega) (by omega)).mono ?_
          rintro e w26 ⟨rfl, T6, -⟩
          refine hK.out _ _ (by exact T6.cell 6 rfl 2 rfl) (fun hHeld => ?_)
          clear hK K
          try simp only [Act.put, List.setIfInBounds_toArray, List.set_cons_zero, List.set_cons_succ]
          rw [HRm9.out]
          refine wpAnyH_take (i := 23) (v := ?v272) (ops_at rfl) (by kernel_rfl) (by kernel_rfl) (by kernel_rfl) (fun _ _ _ h => h) (Or.inl ⟨by rfl, ?hy272⟩) (by assumption) ?rest272
          case hy272 => intro w' hSw; (try dsimp only at hSw); go_simp; try with_reducible rfl
          try simp only [Act.put, List.setIfInBounds_toArray, List.set_cons_zero, List.set_cons_succ]
          refine wpAnyH_take (i := 24) (v := undef) (ops_at rfl) (by kernel_rfl) (by kernel_rfl) (by kernel_rfl) (fun _ _ _ h => h) (Or.inr ⟨by rfl, rfl⟩) (by assumption) ?rest273
          try simp only [Act.put, List.setIfInBounds_toArray, List.set_cons_zero, List.set_cons_succ]
          refine wpAnyH_take (i := 25) (v := undef) (ops_at rfl) (by kernel_rfl) (by kernel_rfl) (by kernel_rfl) (fun _ _ _ h => h) (Or.inr ⟨by rfl, rfl⟩) (by assumption) ?rest274
          try simp only [Act.put, List.setIfInBounds_toArray, List.set_cons_zero, List.set_cons_succ]
          refine wpAnyH_take (i := 26) (v := undef) (ops_at rfl) (by kernel_rfl) (by kernel_rfl) (by kernel_rfl) (fun _ _ _ h => h) (Or.inr ⟨by rfl, rfl⟩) (by assumption) ?rest275
          try simp only [Act.put, List.setIfInBounds_toArray, List.set_cons_zero, List.set_cons_succ]
          refine wpAnyH_take (i := 27) (v := undef) (ops_at rfl) (by kernel_rfl) (by kernel_rfl) (by kernel_rfl) (fun _ _ _ h => h) (Or.inr ⟨by rfl, rfl⟩) (by assumption) ?rest276
          try simp only [Act.put, List.setIfInBounds_toArray, List.set_cons_zero, List.set_cons_succ]
          refine wpAnyH_take (i := 28) (v := undef) (ops_at rfl) (by kernel_rfl) (by kernel_rfl) (by kernel_rfl) (fun _ _ _ h => h) (Or.inr ⟨by rfl, rfl⟩) (by assumption) ?rest277
          try simp only [Act.put, List.setIfInBounds_toArray, List.set_cons_zero, List.set_cons_succ]
          refine wpAnyH_take (i := 29) (v := undef) (ops_at rfl) (by kernel_rfl) (by kernel_rfl) (by kernel_rfl) (fun _ _ _ h => h) (Or.inr ⟨by rfl, rfl⟩) (by assumption) ?rest278
          try simp only [Act.put, List.setIfInBounds_toArray, List.set_cons_zero, List.set_cons_succ]
          refine wpAnyH_take (i := 30) (v := undef) (ops_at rfl) (by kernel_rfl) (by kernel_rfl) (by kernel_rfl) (fun _ _ _ h => h) (Or.inr ⟨by rfl, rfl⟩) (by assumption) ?rest279
          try simp only [Act.put, List.setIfInBounds_toArray, List.set_cons_zero, List.set_cons_succ]
          refine wpAnyH_take (i := 31) (v := undef) (ops_at rfl) (by kernel_rfl) (by kernel_rfl) (by kernel_rfl) (fun _ _ _ h => h) (Or.inr ⟨by rfl, rfl⟩) (by assumption) ?rest280
          try simp only [Act.put, List.setIfInBounds_toArray, List.set_cons_zero, List.set_cons_succ]
          refine wpAnyH_take (i := 32) (v := undef) (ops_at rfl) (by kernel_rfl) (by kernel_rfl) (by kernel_rfl) (fun _ _ _ h => h) (Or.inr ⟨by rfl, rfl⟩) (by assumption) ?rest281
          try simp only [Act.put, List.setIfInBounds_toArray, List.set_cons_zero, List.set_cons_succ]
          refine wpAnyH_take (i := 33) (v := ?v282) (ops_at rfl) (by kernel_rfl) (by kernel_rfl) (by kernel_rfl) (fun _ _ _ h => h) (Or.inl ⟨by rfl, ?hy282⟩) (by assumption) ?rest282
          case hy282 => intro w' hSw; (try dsimp only at hSw); go_simp; try with_reducible rfl
          try simp only [Act.put, List.setIfInBounds_toArray, List.set_cons_zero, List.set_cons_succ]
          refine wpAnyH_take (i := 34) (v := ?v283) (ops_at rfl) (by kernel_rfl) (by kernel_rfl) (by kernel_rfl) (fun _ _ _ h => h) (Or.inl ⟨by rfl, ?hy283⟩) (by assumption) ?rest283
          case hy283 => intro w' hSw; (try dsimp only at hSw); go_simp; try with_reducible rfl
          try simp only [Act.put, List.setIfInBounds_toArray, List.set_cons_zero, List.set_cons_succ]
          refine wpAnyH_take (i := 35) (v := ?v284) (ops_at rfl) (by kernel_rfl) (by kernel_rfl) (by kernel_rfl) (fun _ _ _ h => h) (Or.inl ⟨by rfl, ?hy284⟩) (by assumption) ?rest284
          case hy284 => intro w' hSw; (try dsimp only at hSw); go_simp; try with_reducible rfl
          try simp only [Act.put, List.setIfInBounds_toArray, List.set_cons_zero, List.set_cons_succ]
          refine wpAnyH_done (by kernel_rfl) ?_ _
          go_wp2
          go_roundw
          case rel => exact ⟨k + 1, v9, _, _, d9, r9, ys9, aY9, cY9, by omega, rfl, rfl, by go_num, HYs9.out, R9.out, ((((T6.front 4 rfl).front 3 rfl).front 4 rfl).front 5 rfl |>.front 4 rfl).take 5⟩
          case measure => simp [intOf]; omega
      · as_aux_lemma =>
          have q3 : decide ((0 : Int) < (x.n : Int)) = true := decide_eq_true (by omega)
          have q3n : decide (0 < x.n) = true := decide_eq_true (by omega)
          have hfl := HX.out.len
          have HRm9' := room_is (p := x.b) (sz := sz) (u := v9) (by omega) (by omega) R9.out.inv.le
          rw [HX.out.len] at HRm9'
          obtain ⟨b9, hb9⟩ : ∃ b, roomB sz v9 (x.n : Int) = b := ⟨_, rfl⟩
          have q4 : decide (((frameB x.b).length : Int) ≤ ((sz - v9 : Nat) : Int)) = b9 := by rw [← hb9, HRm9']
          have q4n : decide ((frameB x.b).length ≤ sz - v9) = b9 := by rw [← q4, decide_eq_decide]; omega
          have HRm9 := hid hb9
          have q5 : (b9 != b9) = false := by simp
          clear h0 hfl HRm9' hb9
          have lr := R9.out
          have hu9 := lr.inv.le
          have hr9 := lr.inv.room
          have hl9 := lr.len
          have hn9 := lr.few
          have hp9 := lr.psLen
          have hpn9 := lr.psNum
          rw [List.length_map] at hpn9
          have hw9 := lr.waits
          have hok9 : ∀ y ∈ ys9, y.l.length ≤ 4000 := fun y hy => (lr.inv.ok _ (List.mem_map_of_mem hy)).2
          have HOk9 := hid hok9
          have HU9 := hid lr.inv.len_
          have HB9 : Hid (d9.bytes = r9.bytes) := (lr.rel.bytes lr.inv.fit).symm
          have HBl9 : Hid (d9.bytes.length = n) := by rw [Hid, DSt.bytes, dAll_len _ _ lr.inv.fit]; exact lr.len
          have HRl9 : Hid (r9.b.length = n) := by rw [Hid, lr.rel.b]; exact lr.len
          clear hok9 lr
          have q1 : ((v9 : Int) != (v9 : Int)) = false := by simp
          have q2 : IntKind.i64.wrap ((sz : Int) - (v9 : Int)) = ((sz - v9 : Nat) : Int) := by rw [IntKind.wrap_i64]; omega
          go_wp2_with fail
          refine wp_region_held_drew (S := (fun w' => w'.cell? ⟨wr.heap.size, 2, none⟩ = some (.slice x.a x.n x.c))) (by kernel_rfl) (by exact S9.drew.cell 5 rfl 2 rfl) (fun hHeld => ?_)
          change wpAnyH _ _ _ _ _ 36 (Array.replicate 36 false) _ _
          refine wpAnyH_take (i := 0) (v := ?v285) (ops_at rfl) (by kernel_rfl) (by kernel_rfl) (by kernel_rfl) (fun _ _ _ h => h) (Or.inl ⟨by rfl, ?hy285⟩) (by assumption) ?rest285
          case hy285 => intro w' hSw; (try dsimp only at hSw); go_simp; try with_reducible rfl
          try simp only [Act.put, List.setIfInBounds_toArray, List.set_cons_zero, List.set_cons_succ]
          refine wpAnyH_take (i := 2) (v := ?v286) (ops_at rfl) (by kernel_rfl) (by kernel_rfl) (by kernel_rfl) (fun _ _ _ h => h) (Or.inl ⟨by rfl, ?hy286⟩) (by assumption) ?rest286
          case hy286 => intro w' hSw; (try dsimp only at hSw); go_simp; try with_reducible rfl
          try simp only [Act.put, List.setIfInBounds_toArray, List.set_cons_zero, List.set_cons_succ]
          refine wpAnyH_ready (rs := [1]) (by kernel_rfl) (by simp) ?_
          refine AllReadyH.cons (ops_at rfl) (fun K hK => ?_) AllReadyH.nil
          go_simp
          refine (logUsed_any S9.drew).mono ?_
          rintro e w21 ⟨rfl, rfl⟩
          refine hK.out _ _ (by exact S9.drew.cell 5 rfl 2 rfl) (fun hHeld => ?_)
          clear hK K
          try simp only [Act.put, List.setIfInBounds_toArray, List.set_cons_zero, List.set_cons_succ]
          refine wpAnyH_ready (rs := [3]) (by kernel_rfl) (by simp) ?_
          refine AllReadyH.cons (ops_at rfl) (fun K hK => ?_) AllReadyH.nil
          go_simp
          refine (rUsed_any (by exact (S9.drew.front 4 rfl).front 3 rfl) v9 HU9.out (by omega) HYs9.out HOk9.out).mono ?_
          rintro e w22 ⟨rfl, T2⟩
          refine hK.out _ _ (by exact T2.cell 5 rfl 2 rfl) (fun hHeld => ?_)
          clear hK K
          try simp only [Act.put, List.setIfInBounds_toArray, List.set_cons_zero, List.set_cons_succ]
          refine wpAnyH_take (i := 4) (v := ?v289) (ops_at rfl) (by kernel_rfl) (by kernel_rfl) (by kernel_rfl) (fun _ _ _ h => h) (Or.inl ⟨by rfl, ?hy289⟩) (by assumption) ?rest289
          case hy289 => intro w' hSw; (try dsimp only at hSw); go_simp; try with_reducible rfl
          try simp only [Act.put, List.setIfInBounds_toArray, List.set_cons_zero, List.set_cons_succ]
          refine wpAnyH_take (i := 5) (v := ?v290) (ops_at rfl) (by kernel_rfl) (by kernel_rfl) (by kernel_rfl) (fun _ _ _ h => h) (Or.inl ⟨by rfl, ?hy290⟩) (by assumption) ?rest290
          case hy290 => intro w' hSw; (try dsimp only at hSw); go_simp; try with_reducible rfl
          try simp only [Act.put, List.setIfInBounds_toArray, List.set_cons_zero, List.set_cons_succ]
          refine wpAnyH_take (i := 6) (v := ?v291) (ops_at rfl) (by kernel_rfl) (by kernel_rfl) (by kernel_rfl) (fun _ _ _ h => h) (Or.inl ⟨by rfl, ?hy291⟩) (by assumption) ?rest291
          case hy291 => intro w' hSw; (try dsimp only at hSw); go_simp; try with_reducible rfl
          try simp only [Act.put, List.setIfInBounds_toArray, List.set_cons_zero, List.set_cons_succ]
          refine wpAnyH_take (i := 8) (v := ?v292) (ops_at rfl) (by kernel_rfl) (by kernel_rfl) (by kernel_rfl) (fun _ _ _ h => h) (Or.inl ⟨by rfl, ?hy292⟩) (by assumption) ?rest292
          case hy292 => intro w' hSw; (try dsimp only at hSw); go_simp; try with_reducible rfl
          try simp only [Act.put, List.setIfInBounds_toArray, List.set_cons_zero, List.set_cons_succ]
          refine wpAnyH_ready (rs := [7]) (by kernel_rfl) (by simp) ?_
          refine AllReadyH.cons (ops_at rfl) (fun K hK => ?_) AllReadyH.nil
          go_simp
          refine (hbytes (by exact T2) 3 rfl (by omega) n HBl9.out).mono ?_
          rintro e w23 ⟨a23, c23, rfl, T3, -⟩
          refine hK.out _ _ (by exact T3.cell 5 rfl 2 rfl) (fun hHeld => ?_)
          clear hK K
          try simp only [Act.put, List.setIfInBounds_toArray, List.set_cons_zero, List.set_cons_succ]
          refine wpAnyH_ready (rs := [9]) (by kernel_rfl) (by simp) ?_
          refine AllReadyH.cons (ops_at rfl) (fun K hK => ?_) AllReadyH.nil
          go_simp
          refine (rdbytes_any (by exact T3.front 4 rfl) n HRl9.out (by omega)).mono ?_
          rintro e w24 ⟨a24, c24, rfl, T4, -⟩
          refine hK.out _ _ (by exact T4.cell 6 rfl 2 rfl) (fun hHeld => ?_)
          clear hK K
          try simp only [Act.put, List.setIfInBounds_toArray, List.set_cons_zero, List.set_cons_succ]
          refine wpAnyH_ready (rs := [10]) (by kernel_rfl) (by simp) ?_
          refine AllReadyH.cons (ops_at rfl) (fun K hK => ?_) AllReadyH.nil
          go_simp
          refine (hcmp T4 true a23 a24 d9.bytes r9.bytes n n c23 c24 (by rw [HB9.out]; simp) HBl9.out (by rw [← HB9.out]; exact HBl9.out) (by unfold maxLen; omega) (by unfold maxLen; omega) (by exact T4.at 7 rfl) (by exact T4.at 0 rfl)).mono ?_
          rintro e w25 ⟨rfl, T5, -⟩
          refine hK.out _ _ (by exact T5.cell 6 rfl 2 rfl) (fun hHeld => ?_)
          clear hK K
          try simp only [Act.put, List.setIfInBounds_toArray, List.set_cons_zero, List.set_cons_succ]
          refine wpAnyH_take (i := 11) (v := ?v296) (ops_at rfl) (by kernel_rfl) (by kernel_rfl) (by kernel_rfl) (fun _ _ _ h => h) (Or.inl ⟨by rfl, ?hy296⟩) (by assumption) ?rest296
          case hy296 => intro w' hSw; (try dsimp only at hSw); go_simp; try with_reducible rfl
          try simp only [Act.put, List.setIfInBounds_toArray, List.set_cons_zero, List.set_cons_succ]
          refine wpAnyH_take (i := 12) (v := ?v297) (ops_at rfl) (by kernel_rfl) (by kernel_rfl) (by kernel_rfl) (fun _ _ _ h => h) (Or.inl ⟨by rfl, ?hy297⟩) (by assumption) ?rest297
          case hy297 => intro w' hSw; (try dsimp only at hSw); go_simp; try with_reducible rfl
          try simp only [Act.put, List.setIfInBounds_toArray, List.set_cons_zero, List.set_cons_succ]
          refine wpAnyH_take (i := 13) (v := ?v298) (ops_at rfl) (by kernel_rfl) (by kernel_rfl) (by kernel_rfl) (fun _ _ _ h => h) (Or.inl ⟨by rfl, ?hy298⟩) (by assumption) ?rest298
          case hy298 => intro w' hSw; (try dsimp only at hSw); go_simp; try with_reducible rfl
          try simp only [Act.put, List.setIfInBounds_toArray, List.set_cons_zero, List.set_cons_succ]
          refine wpAnyH_take (i := 14) (v := ?v299) (ops_at rfl) (by kernel_rfl) (by kernel_rfl) (by kernel_rfl) (fun _ _ _ h => h) (Or.inl ⟨by rfl, ?hy299⟩) (by assumption) ?rest299
          case hy299 => intro w' hSw; (try dsimp only at hSw); go_simp; try with_reducible rfl
          try simp only [Act.put, List.setIfInBounds_toArray, List.set_cons_zero, List.set_cons_succ]
          refine wpAnyH_take (i := 15) (v := ?v300) (ops_at rfl) (by kernel_rfl) (by kernel_rfl) (by kernel_rfl) (fun _ _ _ h => h) (Or.inl ⟨by rfl, ?hy300⟩) (by assumption) ?rest300
          case hy300 => intro w' hSw; (try dsimp only at hSw); go_simp; try with_reducible rfl
          try simp only [Act.put, List.setIfInBounds_toArray, List.set_cons_zero, List.set_cons_succ]
          refine wpAnyH_take (i := 16) (v := ?v301) (ops_at rfl) (by kernel_rfl) (by kernel_rfl) (by kernel_rfl) (fun _ _ _ h => h) (Or.inl ⟨by rfl, ?hy301⟩) (by assumption) ?rest301
          case hy301 => intro w' hSw; (try dsimp only at hSw); go_simp; try with_reducible rfl
          try simp only [Act.put, List.setIfInBounds_toArray, List.set_cons_zero, List.set_cons_succ]
          refine wpAnyH_take (i := 17) (v := ?v302) (ops_at rfl) (by kernel_rfl) (by kernel_rfl) (by kernel_rfl) (fun _ _ _ h => h) (Or.inl ⟨by rfl, ?hy302⟩) (by assumption) ?rest302
          case hy302 => intro w' hSw; (try dsimp only at hSw); go_simp; try with_reducible rfl
          try simp only [Act.put, List.setIfInBounds_toArray, List.set_cons_zero, List.set_cons_succ]
          refine wpAnyH_take (i := 19) (v := ?v303) (ops_at rfl) (by kernel_rfl) (by kernel_rfl) (by kernel_rfl) (fun _ _ _ h => h) (Or.inl ⟨by rfl, ?hy303⟩) (by assumption) ?rest303
          case hy303 => intro w' hSw; (try dsimp only at hSw); go_simp; try with_reducible rfl
          try simp only [Act.put, List.setIfInBounds_toArray, List.set_cons_zero, List.set_cons_succ]
          refine wpAnyH_take (i := 20) (v := ?v304) (ops_at rfl) (by kernel_rfl) (by kernel_rfl) (by kernel_rfl) (fun _ _ _ h => h) (Or.inl ⟨by rfl, ?hy304⟩) (by assumption) ?rest304
          case hy304 => intro w' hSw; (try dsimp only at hSw); go_simp; try with_reducible rfl
          try simp only [Act.put, List.setIfInBounds_toArray, List.set_cons_zero, List.set_cons_succ]
          refine wpAnyH_take (i := 21) (v := ?v305) (ops_at rfl) (by kernel_rfl) (by kernel_rfl) (by kernel_rfl) (fun _ _ _ h => h) (Or.inl ⟨by rfl, ?hy305⟩) (by assumption) ?rest305
          case hy305 => intro w' hSw; (try dsimp only at hSw); go_simp; try with_reducible rfl
          try simp only [Act.put, List.setIfInBounds_toArray, List.set_cons_zero, List.set_cons_succ]
          refine wpAnyH_take (i := 22) (v := ?v306) (ops_at rfl) (by kernel_rfl) (by kernel_rfl) (by kernel_rfl) (fun _ _ _ h => h) (Or.inl ⟨by rfl, ?hy306⟩) (by assumption) ?rest306
          case hy306 => intro w' hSw; (try dsimp only at hSw); go_simp; try with_reducible rfl
          try simp only [Act.put, List.setIfInBounds_toArray, List.set_cons_zero, List.set_cons_succ]
          refine wpAnyH_ready (rs := [18]) (by kernel_rfl) (by simp) ?_
          refine AllReadyH.cons (ops_at rfl) (fun K hK => ?_) AllReadyH.nil
          go_simp
          refine (room_any (by exact T5.front 4 rfl) (x.n : Int) (by omega) (by omega)).mono ?_
          rintro e w26 ⟨rfl, T6, -⟩
          refine hK.out _ _ (by exact T6.cell 6 rfl 2 rfl) (fun hHeld => ?_)
          clear hK K
          try simp only [Act.put, List.setIfInBounds_toArray, List.set_cons_zero, List.set_cons_succ]
          rw [HRm9.out]
          refine wpAnyH_take (i := 23) (v := ?v308) (ops_at rfl) (by kernel_rfl) (by kernel_rfl) (by kernel_rfl) (fun _ _ _ h => h) (Or.inl ⟨by rfl, ?hy308⟩) (by assumption) ?rest308
          case hy308 => intro w' hSw; (try dsimp only at hSw); go_simp; try with_reducible rfl
          try simp only [Act.put, List.setIfInBounds_toArray, List.set_cons_zero, List.set_cons_succ]
          refine wpAnyH_take (i := 24) (v := ?v309) (ops_at rfl) (by kernel_rfl) (by kernel_rfl) (by kernel_rfl) (fun _ _ _ h => h) (Or.inl ⟨by rfl, ?hy309⟩) (by assumption) ?rest309
          case hy309 => intro w' hSw; (try dsimp only at hSw); go_simp; try with_reducible rfl
          try simp only [Act.put, List.setIfInBounds_toArray, List.set_cons_zero, List.set_cons_succ]
          refine wpAnyH_take (i := 25) (v := ?v310) (ops_at rfl) (by kernel_rfl) (by kernel_rfl) (by kernel_rfl) (fun _ _ _ h => h) (Or.inl ⟨by rfl, ?hy310⟩) (by assumption) ?rest310
          case hy310 => intro w' hSw; (try dsimp only at hSw); go_simp; try with_reducible rfl
          try simp only [Act.put, List.setIfInBounds_toArray, List.set_cons_zero, List.set_cons_succ]
          refine wpAnyH_take (i := 28) (v := ?v311) (ops_at rfl) (by kernel_rfl) (by kernel_rfl) (by kernel_rfl) (fun _ _ _ h => h) (Or.inl ⟨by rfl, ?hy311⟩) (by assumption) ?rest311
          case hy311 => intro w' hSw; (try dsimp only at hSw); go_simp; try with_reducible rfl
          try simp only [Act.put, List.setIfInBounds_toArray, List.set_cons_zero, List.set_cons_succ]
          refine wpAnyH_take (i := 29) (v := ?v312) (ops_at rfl) (by kernel_rfl) (by kernel_rfl) (by kernel_rfl) (fun _ _ _ h => h) (Or.inl ⟨by rfl, ?hy312⟩) (by assumption) ?rest312
          case hy312 => intro w' hSw; (try dsimp only at hSw); go_simp; try with_reducible rfl
          try simp only [Act.put, List.setIfInBounds_toArray, List.set_cons_zero, List.set_cons_succ]
          refine wpAnyH_ready (rs := [26]) (by kernel_rfl) (by simp) ?_
          refine AllReadyH.cons (ops_at rfl) (fun K hK => ?_) AllReadyH.nil
          go_simp
          refine (rfrPut_any x.a x.b x.n x.c _ HX.out.len (by omega) (by exact T6.old HX.out.isAt)).mono ?_
          rintro e w27 ⟨a27, c27, rfl, -, hb27⟩
          have T7 := T6.grow hb27
          refine hK.out _ _ (by exact T7.cell 6 rfl 2 rfl) (fun hHeld => ?_)
          clear hK K
          try simp only [Act.put, List.setIfInBounds_toArray, List.set_cons_zero, List.set_cons_succ]
          refine wpAnyH_take (i := 27) (v := ?v314) (ops_at rfl) (by kernel_rfl) (by kernel_rfl) (by kernel_rfl) (fun _ _ _ h => h) (Or.inl ⟨by rfl, ?hy314⟩) (by assumption) ?rest314
          case hy314 => intro w' hSw; (try dsimp only at hSw); go_simp; try with_reducible rfl
          try simp only [Act.put, List.setIfInBounds_toArray, List.set_cons_zero, List.set_cons_succ]
          refine wpAnyH_ready (rs := [30]) (by kernel_rfl) (by simp) ?_
          refine AllReadyH.cons (ops_at rfl) (fun K hK => ?_) AllReadyH.nil
          go_simp
          refine (rUsed_any (by exact (T7.front 4 rfl).front 4 rfl) v9 HU9.out (by omega) HYs9.out HOk9.out).mono ?_
          rintro e w28 ⟨rfl, T8⟩
          refine hK.out _ _ (by exact T8.cell 6 rfl 2 rfl) (fun hHeld => ?_)
          clear hK K
          try simp only [Act.put, List.setIfInBounds_toArray, List.set_cons_zero, List.set_cons_succ]
          refine wpAnyH_take (i := 31) (v := ?v316) (ops_at rfl) (by kernel_rfl) (by kernel_rfl) (by kernel_rfl) (fun _ _ _ h => h) (Or.inl ⟨by rfl, ?hy316⟩) (by assumption) ?rest316
          case hy316 => intro w' hSw; (try dsimp only at hSw); go_simp; try with_reducible rfl
          try simp only [Act.put, List.setIfInBounds_toArray, List.set_cons_zero, List.set_cons_succ]
          refine wpAnyH_take (i := 32) (v := ?v317) (ops_at rfl) (by kernel_rfl) (by kernel_rfl) (by kernel_rfl) (fun _ _ _ h => h) (Or.inl ⟨by rfl, ?hy317⟩) (by assumption) ?rest317
          case hy317 => intro w' hSw; (try dsimp only at hSw); go_simp; try with_reducible rfl
          try simp only [Act.put, List.setIfInBounds_toArray, List.set_cons_zero, List.set_cons_succ]
          refine wpAnyH_take (i := 33) (v := ?v318) (ops_at rfl) (by kernel_rfl) (by kernel_rfl) (by kernel_rfl) (fun _ _ _ h => h) (Or.inl ⟨by rfl, ?hy318⟩) (by assumption) ?rest318
          case hy318 => intro w' hSw; (try dsimp only at hSw); go_simp; try with_reducible rfl
          try simp only [Act.put, List.setIfInBounds_toArray, List.set_cons_zero, List.set_cons_succ]
          refine wpAnyH_take (i := 34) (v := ?v319) (ops_at rfl) (by kernel_rfl) (by kernel_rfl) (by kernel_rfl) (fun _ _ _ h => h) (Or.inl ⟨by rfl, ?hy319⟩) (by assumption) ?rest319
          case hy319 => intro w' hSw; (try dsimp only at hSw); go_simp; try with_reducible rfl
          try simp only [Act.put, List.setIfInBounds_toArray, List.set_cons_zero, List.set_cons_succ]
          refine wpAnyH_take (i := 35) (v := ?v320) (ops_at rfl) (by kernel_rfl) (by kernel_rfl) (by kernel_rfl) (fun _ _ _ h => h) (Or.inl ⟨by rfl, ?hy320⟩) (by assumption) ?rest320
          case hy320 => intro w' hSw; (try dsimp only at hSw); go_simp; try with_reducible rfl
          try simp only [Act.put, List.setIfInBounds_toArray, List.set_cons_zero, List.set_cons_succ]
          refine wpAnyH_done (by kernel_rfl) ?_ _
          go_wp2
          go_roundw
          case rel => exact ⟨k + 1, v9, _, _, d9, r9, ys9, aY9, cY9, by omega, rfl, rfl, by go_num, HYs9.out, R9.out, ((((T8.front 1 rfl).front 4 rfl |>.front 2 rfl).front 5 rfl).front 4 rfl).take 5⟩
          case measure => simp [intOf]; omega
    have g2' : (x.kind == 2) = false := by simpa using hk2
    by_cases hk4 : x.kind = 4
    · have g4' : (x.kind == 4) = true := by simpa using hk4
      clear hk0 hk1 hk3 hk2 hk4
      go_wp2_with fail
      refine wp_region_held_drew (S := (fun w' => w'.cell? ⟨wr.heap.size, 2, none⟩ = some (.slice x.a x.n x.c) ∧ w'.cell? ⟨wr.heap.size, 0, none⟩ = some (.int .i64 x.kind))) (by kernel_rfl) (by exact ⟨S5.drew.cell 5 rfl 2 rfl, S5.drew.cell 5 rfl 0 rfl⟩) (fun hHeld => ?_)
      change wpAnyH _ _ _ _ _ 14 (Array.replicate 14 false) _ _
      refine wpAnyH_take (i := 0) (v := ?v321) (ops_at rfl) (by kernel_rfl) (by kernel_rfl) (by kernel_rfl) (fun _ _ _ h => h) (Or.inl ⟨by rfl, ?hy321⟩) (by assumption) ?rest321
      case hy321 => intro w' hSw; (try dsimp only at hSw); go_simp; try with_reducible rfl
      try simp only [Act.put, List.setIfInBounds_toArray, List.set_cons_zero, List.set_cons_succ]
      refine wpAnyH_take (i := 1) (v := ?v322) (ops_at rfl) (by kernel_rfl) (by kernel_rfl) (by kernel_rfl) (fun _ _ _ h => h) (Or.inl ⟨by rfl, ?hy322⟩) (by assumption) ?rest322
      case hy322 => intro w' hSw; (try dsimp only at hSw); go_simp; try with_reducible rfl
      try simp only [Act.put, List.setIfInBounds_toArray, List.set_cons_zero, List.set_cons_succ]
      refine wpAnyH_take (i := 2) (v := ?v323) (ops_at rfl) (by kernel_rfl) (by kernel_rfl) (by kernel_rfl) (fun _ _ _ h => h) (Or.inl ⟨by rfl, ?hy323⟩) (by assumption) ?rest323
      case hy323 => intro w' hSw; (try dsimp only at hSw); go_simp; try with_reducible rfl
      try simp only [Act.put, List.setIfInBounds_toArray, List.set_cons_zero, List.set_cons_succ]
      refine wpAnyH_take (i := 3) (v := ?v324) (ops_at rfl) (by kernel_rfl) (by kernel_rfl) (by kernel_rfl) (fun _ _ _ h => h) (Or.inl ⟨by rfl, ?hy324⟩) (by assumption) ?rest324
      case hy324 => intro w' hSw; (try dsimp only at hSw); go_simp; try with_reducible rfl
      try simp only [Act.put, List.setIfInBounds_toArray, List.set_cons_zero, List.set_cons_succ]
      refine wpAnyH_take (i := 4) (v := undef) (ops_at rfl) (by kernel_rfl) (by kernel_rfl) (by kernel_rfl) (fun _ _ _ h => h) (Or.inr ⟨by rfl, rfl⟩) (by assumption) ?rest325
      try simp only [Act.put, List.setIfInBounds_toArray, List.set_cons_zero, List.set_cons_succ]
      refine wpAnyH_take (i := 5) (v := undef) (ops_at rfl) (by kernel_rfl) (by kernel_rfl) (by kernel_rfl) (fun _ _ _ h => h) (Or.inr ⟨by rfl, rfl⟩) (by assumption) ?rest326
      try simp only [Act.put, List.setIfInBounds_toArray, List.set_cons_zero, List.set_cons_succ]
      refine wpAnyH_take (i := 6) (v := undef) (ops_at rfl) (by kernel_rfl) (by kernel_rfl) (by kernel_rfl) (fun _ _ _ h => h) (Or.inr ⟨by rfl, rfl⟩) (by assumption) ?rest327
      try simp only [Act.put, List.setIfInBounds_toArray, List.set_cons_zero, List.set_cons_succ]
      refine wpAnyH_take (i := 7) (v := undef) (ops_at rfl) (by kernel_rfl) (by kernel_rfl) (by kernel_rfl) (fun _ _ _ h => h) (Or.inr ⟨by rfl, rfl⟩) (by assumption) ?rest328
      try simp only [Act.put, List.setIfInBounds_toArray, List.set_cons_zero, List.set_cons_succ]
      refine wpAnyH_take (i := 8) (v := undef) (ops_at rfl) (by kernel_rfl) (by kernel_rfl) (by kernel_rfl) (fun _ _ _ h => h) (Or.inr ⟨by rfl, rfl⟩) (by assumption) ?rest329
      try simp only [Act.put, List.setIfInBounds_toArray, List.set_cons_zero, List.set_cons_succ]
      refine wpAnyH_take (i := 9) (v := undef) (ops_at rfl) (by kernel_rfl) (by kernel_rfl) (by kernel_rfl) (fun _ _ _ h => h) (Or.inr ⟨by rfl, rfl⟩) (by assumption) ?rest330
      try simp only [Act.put, List.setIfInBounds_toArray, List.set_cons_zero, List.set_cons_succ]
      refine wpAnyH_take (i := 10) (v := undef) (ops_at rfl) (by kernel_rfl) (by kernel_rfl) (by kernel_rfl) (fun _ _ _ h => h) (Or.inr ⟨by rfl, rfl⟩) (by assumption) ?rest331
      try simp only [Act.put, List.setIfInBounds_toArray, List.set_cons_zero, List.set_cons_succ]
      refine wpAnyH_take (i := 11) (v := undef) (ops_at rfl) (by kernel_rfl) (by kernel_rfl) (by kernel_rfl) (fun _ _ _ h => h) (Or.inr ⟨by rfl, rfl⟩) (by assumption) ?rest332
      try simp only [Act.put, List.setIfInBounds_toArray, List.set_cons_zero, List.set_cons_succ]
      refine wpAnyH_take (i := 12) (v := undef) (ops_at rfl) (by kernel_rfl) (by kernel_rfl) (by kernel_rfl) (fun _ _ _ h => h) (Or.inr ⟨by rfl, rfl⟩) (by assumption) ?rest333
      try simp only [Act.put, List.setIfInBounds_toArray, List.set_cons_zero, List.set_cons_succ]
      refine wpAnyH_take (i := 13) (v := ?v334) (ops_at rfl) (by kernel_rfl) (by kernel_rfl) (by kernel_rfl) (fun _ _ _ h => h) (Or.inl ⟨by rfl, ?hy334⟩) (by assumption) ?rest334
      case hy334 => intro w' hSw; (try dsimp only at hSw); go_simp; try with_reducible rfl
      try simp only [Act.put, List.setIfInBounds_toArray, List.set_cons_zero, List.set_cons_succ]
      refine wpAnyH_done (by kernel_rfl) ?_ _
      have S8 := S5.drew
      have R8 := hid (HR.out.le (j := 2 + 2 * k) (by omega))
      obtain ⟨d8, hd8⟩ : ∃ d8, d = d8 := ⟨_, rfl⟩
      obtain ⟨r8, hr8⟩ : ∃ r8, r = r8 := ⟨_, rfl⟩
      rw [hd8, hr8] at S8 R8
      have dk := (R8.out).disk.crash x.keep
      have hp8 := R8.out.disk.psLen
      have hw8 := R8.out.waits
      have hp8' := dk.psLen
      have hs8' : (r8.crash x.keep).syncs < 100000000 := by show r8.syncs < _; rw [R8.out.rel.syncs]; have := R8.out.syncs; omega
      have x8 := S8.cell 5 rfl 1 rfl
      go_wp2_with fail
      refine (hcrash S8 1 rfl x.keep HX.out.k0 HX.out.k1 (by omega)).mono ?_
      rintro e w11 ⟨rfl, T11⟩
      have x11 := T11.cell 5 rfl 1 rfl
      go_wp2_with fail
      refine (rdcrash_any (by exact T11.front 3 rfl) x.keep (by omega)).mono ?_
      rintro e w12 ⟨rfl, T12⟩
      obtain ⟨ps9, v9, e91, e92, e93, e94⟩ := logOpen_rel (by exact T12.front 2 rfl) dk hsz hr (by omega)
      go_wp2_with fail
      refine e94.mono ?_
      rintro e w13 ⟨g9, a13, c13, qs, d9, rfl, hqs, hqd, hR9, T13⟩
      go_wp2_with fail
      refine (rOpen_yes (r := r8.crash x.keep) (by exact T13.front 3 rfl) fr sz hsz (by rw [dk.rel.b, dk.len]; exact hr) (by omega) hs8' e93 e91 e92).mono ?_
      rintro e w14 ⟨h9, aY9, cY9, ys9, rfl, hys, hyd, T14⟩
      have y14 := T14.cell 0 rfl 3 rfl
      have hpn14 := hR9.psNum
      have hyl : ps9.length = ys9.length := by rw [← hys, List.length_map]
      rw [hyl] at T14 hpn14 ⊢
      have HYs9 := hid hyd
      have HQd := hid hqd
      have tq : (qs.map BS.l == ys9.map BS.l) = true := by rw [hqs, hys]; simp
      rw [← hys] at hR9
      obtain ⟨r9, hr9e⟩ : ∃ r, (r8.crash x.keep).nought fr sz v9 = r := ⟨_, rfl⟩
      rw [hr9e] at hR9 T14
      have R9 := hid (hR9.le (j := 1 + 2 * (k + 1)) (by omega))
      clear hyd hqd hys hqs hyl hR9 hr9e e91 e93 e94 dk
      go_wp2_with fail
      refine (same_rows2 (by exact T14) (k := 5) (j := 2) rfl HQd.out rfl HYs9.out (by omega) (by omega)).mono ?_
      rintro e w15 ⟨rfl, T15⟩
      rw [tq]
      have S9 : St w w15 [cellsT g9 81 (logC pd fr sz v9), diskT pd d9, cellsT h9 69 (rlogC pr fr sz (.slice aY9 ys9.length cY9)), rdT pr r9, rowsT eS bsRefs (.slice aY9 ys9.length cY9) ys9, cellsT wr.heap.size 34 [.int .i64 x.kind, .int .i64 x.keep, .slice x.a x.n x.c]] :=
        (((((T15.front 9 rfl).front 3 rfl).front 3 rfl).front 3 rfl |>.front 5 rfl).front 5 rfl).take 6
      clear T11 T12 T13 T14 T15 y14
      by_cases h0 : x.n = 0
      · as_aux_lemma =>
          have q3 : decide ((0 : Int) < (x.n : Int)) = false := decide_eq_false (by omega)
          have q3n : decide (0 < x.n) = false := decide_eq_false (by omega)
          have HRm9 : Hid (roomB sz v9 (x.n : Int) = false) := by rw [Hid]; unfold roomB; rw [h0]; simp
          clear h0
          have lr := R9.out
          have hu9 := lr.inv.le
          have hr9 := lr.inv.room
          have hl9 := lr.len
          have hn9 := lr.few
          have hp9 := lr.psLen
          have hpn9 := lr.psNum
          rw [List.length_map] at hpn9
          have hw9 := lr.waits
          have hok9 : ∀ y ∈ ys9, y.l.length ≤ 4000 := fun y hy => (lr.inv.ok _ (List.mem_map_of_mem hy)).2
          have HOk9 := hid hok9
          have HU9 := hid lr.inv.len_
          have HB9 : Hid (d9.bytes = r9.bytes) := (lr.rel.bytes lr.inv.fit).symm
          have HBl9 : Hid (d9.bytes.length = n) := by rw [Hid, DSt.bytes, dAll_len _ _ lr.inv.fit]; exact lr.len
          have HRl9 : Hid (r9.b.length = n) := by rw [Hid, lr.rel.b]; exact lr.len
          clear hok9 lr
          have q1 : ((v9 : Int) != (v9 : Int)) = false := by simp
          have q2 : IntKind.i64.wrap ((sz : Int) - (v9 : Int)) = ((sz - v9 : Nat) : Int) := by rw [IntKind.wrap_i64]; omega
          go_wp2_with fail
          refine wp_region_held_drew (S := (fun w' => w'.cell? ⟨wr.heap.size, 2, none⟩ = some (.slice x.a x.n x.c))) (by kernel_rfl) (by exact S9.drew.cell 5 rfl 2 rfl) (fun hHeld => ?_)
          change wpAnyH _ _ _ _ _ 36 (Array.replicate 36 false) _ _
          refine wpAnyH_take (i := 0) (v := ?v335) (ops_at rfl) (by kernel_rfl) (by kernel_rfl) (by kernel_rfl) (fun _ _ _ h => h) (Or.inl ⟨by rfl, ?hy335⟩) (by assumption) ?rest335
          case hy335 => intro w' hSw; (try dsimp only at hSw); go_simp; try with_reducible rfl
          try simp only [Act.put, List.setIfInBounds_toArray, List.set_cons_zero, List.set_cons_succ]
          refine wpAnyH_take (i := 2) (v := ?v336) (ops_at rfl) (by kernel_rfl) (by kernel_rfl) (by kernel_rfl) (fun _ _ _ h => h) (Or.inl ⟨by rfl, ?hy336⟩) (by assumption) ?rest336
          case hy336 => intro w' hSw; (try dsimp only at hSw); go_simp; try with_reducible rfl
          try simp only [Act.put, List.setIfInBounds_toArray, List.set_cons_zero, List.set_cons_succ]
          refine wpAnyH_ready (rs := [1]) (by kernel_rfl) (by simp) ?_
          refine AllReadyH.cons (ops_at rfl) (fun K hK => ?_) AllReadyH.nil
          go_simp
          refine (logUsed_any S9.drew).mono ?_
          rintro e w21 ⟨rfl, rfl⟩
          refine hK.out _ _ (by exact S9.drew.cell 5 rfl 2 rfl) (fun hHeld => ?_)
          clear hK K
          try simp only [Act.put, List.setIfInBounds_toArray, List.set_cons_zero, List.set_cons_succ]
          refine wpAnyH_ready (rs := [3]) (by kernel_rfl) (by simp) ?_
          refine AllReadyH.cons (ops_at rfl) (fun K hK => ?_) AllReadyH.nil
          go_simp
          refine (rUsed_any (by exact (S9.drew.front 4 rfl).front 3 rfl) v9 HU9.out (by omega) HYs9.out HOk9.out).mono ?_
          rintro e w22 ⟨rfl, T2⟩
          refine hK.out _ _ (by exact T2.cell 5 rfl 2 rfl) (fun hHeld => ?_)
          clear hK K
          try simp only [Act.put, List.setIfInBounds_toArray, List.set_cons_zero, List.set_cons_succ]
          refine wpAnyH_take (i := 4) (v := ?v339) (ops_at rfl) (by kernel_rfl) (by kernel_rfl) (by kernel_rfl) (fun _ _ _ h => h) (Or.inl ⟨by rfl, ?hy339⟩) (by assumption) ?rest339
          case hy339 => intro w' hSw; (try dsimp only at hSw); go_simp; try with_reducible rfl
          try simp only [Act.put, List.setIfInBounds_toArray, List.set_cons_zero, List.set_cons_succ]
          refine wpAnyH_take (i := 5) (v := ?v340) (ops_at rfl) (by kernel_rfl) (by kernel_rfl) (by kernel_rfl) (fun _ _ _ h => h) (Or.inl ⟨by rfl, ?hy340⟩) (by assumption) ?rest340
          case hy340 => intro w' hSw; (try dsimp only at hSw); go_simp; try with_reducible rfl
          try simp only [Act.put, List.setIfInBounds_toArray, List.set_cons_zero, List.set_cons_succ]
          refine wpAnyH_take (i := 6) (v := ?v341) (ops_at rfl) (by kernel_rfl) (by kernel_rfl) (by kernel_rfl) (fun _ _ _ h => h) (Or.inl ⟨by rfl, ?hy341⟩) (by assumption) ?rest341
          case hy341 => intro w' hSw; (try dsimp only at hSw); go_simp; try with_reducible rfl
          try simp only [Act.put, List.setIfInBounds_toArray, List.set_cons_zero, List.set_cons_succ]
          refine wpAnyH_take (i := 8) (v := ?v342) (ops_at rfl) (by kernel_rfl) (by kernel_rfl) (by kernel_rfl) (fun _ _ _ h => h) (Or.inl ⟨by rfl, ?hy342⟩) (by assumption) ?rest342
          case hy342 => intro w' hSw; (try dsimp only at hSw); go_simp; try with_reducible rfl
          try simp only [Act.put, List.setIfInBounds_toArray, List.set_cons_zero, List.set_cons_succ]
          refine wpAnyH_ready (rs := [7]) (by kernel_rfl) (by simp) ?_
          refine AllReadyH.cons (ops_at rfl) (fun K hK => ?_) AllReadyH.nil
          go_simp
          refine (hbytes (by exact T2) 3 rfl (by omega) n HBl9.out).mono ?_
          rintro e w23 ⟨a23, c23, rfl, T3, -⟩
          refine hK.out _ _ (by exact T3.cell 5 rfl 2 rfl) (fun hHeld => ?_)
          clear hK K
          try simp only [Act.put, List.setIfInBounds_toArray, List.set_cons_zero, List.set_cons_succ]
          refine wpAnyH_ready (rs := [9]) (by kernel_rfl) (by simp) ?_
          refine AllReadyH.cons (ops_at rfl) (fun K hK => ?_) AllReadyH.nil
          go_simp
          refine (rdbytes_any (by exact T3.front 4 rfl) n HRl9.out (by omega)).mono ?_
          rintro e w24 ⟨a24, c24, rfl, T4, -⟩
          refine hK.out _ _ (by exact T4.cell 6 rfl 2 rfl) (fun hHeld => ?_)
          clear hK K
          try simp only [Act.put, List.setIfInBounds_toArray, List.set_cons_zero, List.set_cons_succ]
          refine wpAnyH_ready (rs := [10]) (by kernel_rfl) (by simp) ?_
          refine AllReadyH.cons (ops_at rfl) (fun K hK => ?_) AllReadyH.nil
          go_simp
          refine (hcmp T4 true a23 a24 d9.bytes r9.bytes n n c23 c24 (by rw [HB9.out]; simp) HBl9.out (by rw [← HB9.out]; exact HBl9.out) (by unfold maxLen; omega) (by unfold maxLen; omega) (by exact T4.at 7 rfl) (by exact T4.at 0 rfl)).mono ?_
          rintro e w25 ⟨rfl, T5, -⟩
          refine hK.out _ _ (by exact T5.cell 6 rfl 2 rfl) (fun hHeld => ?_)
          clear hK K
          try simp only [Act.put, List.setIfInBounds_toArray, List.set_cons_zero, List.set_cons_succ]
          refine wpAnyH_take (i := 11) (v := ?v346) (ops_at rfl) (by kernel_rfl) (by kernel_rfl) (by kernel_rfl) (fun _ _ _ h => h) (Or.inl ⟨by rfl, ?hy346⟩) (by assumption) ?rest346
          case hy346 => intro w' hSw; (try dsimp only at hSw); go_simp; try with_reducible rfl
          try simp only [Act.put, List.setIfInBounds_toArray, List.set_cons_zero, List.set_cons_succ]
          refine wpAnyH_take (i := 12) (v := ?v347) (ops_at rfl) (by kernel_rfl) (by kernel_rfl) (by kernel_rfl) (fun _ _ _ h => h) (Or.inl ⟨by rfl, ?hy347⟩) (by assumption) ?rest347
          case hy347 => intro w' hSw; (try dsimp only at hSw); go_simp; try with_reducible rfl
          try simp only [Act.put, List.setIfInBounds_toArray, List.set_cons_zero, List.set_cons_succ]
          refine wpAnyH_take (i := 13) (v := ?v348) (ops_at rfl) (by kernel_rfl) (by kernel_rfl) (by kernel_rfl) (fun _ _ _ h => h) (Or.inl ⟨by rfl, ?hy348⟩) (by assumption) ?rest348
          case hy348 => intro w' hSw; (try dsimp only at hSw); go_simp; try with_reducible rfl
          try simp only [Act.put, List.setIfInBounds_toArray, List.set_cons_zero, List.set_cons_succ]
          refine wpAnyH_take (i := 14) (v := ?v349) (ops_at rfl) (by kernel_rfl) (by kernel_rfl) (by kernel_rfl) (fun _ _ _ h => h) (Or.inl ⟨by rfl, ?hy349⟩) (by assumption) ?rest349
          case hy349 => intro w' hSw; (try dsimp only at hSw); go_simp; try with_reducible rfl
          try simp only [Act.put, List.setIfInBounds_toArray, List.set_cons_zero, List.set_cons_succ]
          refine wpAnyH_take (i := 15) (v := ?v350) (ops_at rfl) (by kernel_rfl) (by kernel_rfl) (by kernel_rfl) (fun _ _ _ h => h) (Or.inl ⟨by rfl, ?hy350⟩) (by assumption) ?rest350
          case hy350 => intro w' hSw; (try dsimp only at hSw); go_simp; try with_reducible rfl
          try simp only [Act.put, List.setIfInBounds_toArray, List.set_cons_zero, List.set_cons_succ]
          refine wpAnyH_take (i := 16) (v := ?v351) (ops_at rfl) (by kernel_rfl) (by kernel_rfl) (by kernel_rfl) (fun _ _ _ h => h) (Or.inl ⟨by rfl, ?hy351⟩) (by assumption) ?rest351
          case hy351 => intro w' hSw; (try dsimp only at hSw); go_simp; try with_reducible rfl
          try simp only [Act.put, List.setIfInBounds_toArray, List.set_cons_zero, List.set_cons_succ]
          refine wpAnyH_take (i := 17) (v := ?v352) (ops_at rfl) (by kernel_rfl) (by kernel_rfl) (by kernel_rfl) (fun _ _ _ h => h) (Or.inl ⟨by rfl, ?hy352⟩) (by assumption) ?rest352
          case hy352 => intro w' hSw; (try dsimp only at hSw); go_simp; try with_reducible rfl
          try simp only [Act.put, List.setIfInBounds_toArray, List.set_cons_zero, List.set_cons_succ]
          refine wpAnyH_take (i := 19) (v := ?v353) (ops_at rfl) (by kernel_rfl) (by kernel_rfl) (by kernel_rfl) (fun _ _ _ h => h) (Or.inl ⟨by rfl, ?hy353⟩) (by assumption) ?rest353
          case hy353 => intro w' hSw; (try dsimp only at hSw); go_simp; try with_reducible rfl
          try simp only [Act.put, List.setIfInBounds_toArray, List.set_cons_zero, List.set_cons_succ]
          refine wpAnyH_take (i := 20) (v := ?v354) (ops_at rfl) (by kernel_rfl) (by kernel_rfl) (by kernel_rfl) (fun _ _ _ h => h) (Or.inl ⟨by rfl, ?hy354⟩) (by assumption) ?rest354
          case hy354 => intro w' hSw; (try dsimp only at hSw); go_simp; try with_reducible rfl
          try simp only [Act.put, List.setIfInBounds_toArray, List.set_cons_zero, List.set_cons_succ]
          refine wpAnyH_take (i := 21) (v := ?v355) (ops_at rfl) (by kernel_rfl) (by kernel_rfl) (by kernel_rfl) (fun _ _ _ h => h) (Or.inl ⟨by rfl, ?hy355⟩) (by assumption) ?rest355
          case hy355 => intro w' hSw; (try dsimp only at hSw); go_simp; try with_reducible rfl
          try simp only [Act.put, List.setIfInBounds_toArray, List.set_cons_zero, List.set_cons_succ]
          refine wpAnyH_take (i := 22) (v := ?v356) (ops_at rfl) (by kernel_rfl) (by kernel_rfl) (by kernel_rfl) (fun _ _ _ h => h) (Or.inl ⟨by rfl, ?hy356⟩) (by assumption) ?rest356
          case hy356 => intro w' hSw; (try dsimp only at hSw); go_simp; try with_reducible rfl
          try simp only [Act.put, List.setIfInBounds_toArray, List.set_cons_zero, List.set_cons_succ]
          refine wpAnyH_ready (rs := [18]) (by kernel_rfl) (by simp) ?_
          refine AllReadyH.cons (ops_at rfl) (fun K hK => ?_) AllReadyH.nil
          go_simp
          refine (room_any (by exact T5.front 4 rfl) (x.n : Int) (by omega) (by omega)).mono ?_
          rintro e w26 ⟨rfl, T6, -⟩
          refine hK.out _ _ (by exact T6.cell 6 rfl 2 rfl) (fun hHeld => ?_)
          clear hK K
          try simp only [Act.put, List.setIfInBounds_toArray, List.set_cons_zero, List.set_cons_succ]
          rw [HRm9.out]
          refine wpAnyH_take (i := 23) (v := ?v358) (ops_at rfl) (by kernel_rfl) (by kernel_rfl) (by kernel_rfl) (fun _ _ _ h => h) (Or.inl ⟨by rfl, ?hy358⟩) (by assumption) ?rest358
          case hy358 => intro w' hSw; (try dsimp only at hSw); go_simp; try with_reducible rfl
          try simp only [Act.put, List.setIfInBounds_toArray, List.set_cons_zero, List.set_cons_succ]
          refine wpAnyH_take (i := 24) (v := undef) (ops_at rfl) (by kernel_rfl) (by kernel_rfl) (by kernel_rfl) (fun _ _ _ h => h) (Or.inr ⟨by rfl, rfl⟩) (by assumption) ?rest359
          try simp only [Act.put, List.setIfInBounds_toArray, List.set_cons_zero, List.set_cons_succ]
          refine wpAnyH_take (i := 25) (v := undef) (ops_at rfl) (by kernel_rfl) (by kernel_rfl) (by kernel_rfl) (fun _ _ _ h => h) (Or.inr ⟨by rfl, rfl⟩) (by assumption) ?rest360
          try simp only [Act.put, List.setIfInBounds_toArray, List.set_cons_zero, List.set_cons_succ]
          refine wpAnyH_take (i := 26) (v := undef) (ops_at rfl) (by kernel_rfl) (by kernel_rfl) (by kernel_rfl) (fun _ _ _ h => h) (Or.inr ⟨by rfl, rfl⟩) (by assumption) ?rest361
          try simp only [Act.put, List.setIfInBounds_toArray, List.set_cons_zero, List.set_cons_succ]
          refine wpAnyH_take (i := 27) (v := undef) (ops_at rfl) (by kernel_rfl) (by kernel_rfl) (by kernel_rfl) (fun _ _ _ h => h) (Or.inr ⟨by rfl, rfl⟩) (by assumption) ?rest362
          try simp only [Act.put, List.setIfInBounds_toArray, List.set_cons_zero, List.set_cons_succ]
          refine wpAnyH_take (i := 28) (v := undef) (ops_at rfl) (by kernel_rfl) (by kernel_rfl) (by kernel_rfl) (fun _ _ _ h => h) (Or.inr ⟨by rfl, rfl⟩) (by assumption) ?rest363
          try simp only [Act.put, List.setIfInBounds_toArray, List.set_cons_zero, List.set_cons_succ]
          refine wpAnyH_take (i := 29) (v := undef) (ops_at rfl) (by kernel_rfl) (by kernel_rfl) (by kernel_rfl) (fun _ _ _ h => h) (Or.inr ⟨by rfl, rfl⟩) (by assumption) ?rest364
          try simp only [Act.put, List.setIfInBounds_toArray, List.set_cons_zero, List.set_cons_succ]
          refine wpAnyH_take (i := 30) (v := undef) (ops_at rfl) (by kernel_rfl) (by kernel_rfl) (by kernel_rfl) (fun _ _ _ h => h) (Or.inr ⟨by rfl, rfl⟩) (by assumption) ?rest365
          try simp only [Act.put, List.setIfInBounds_toArray, List.set_cons_zero, List.set_cons_succ]
          refine wpAnyH_take (i := 31) (v := undef) (ops_at rfl) (by kernel_rfl) (by kernel_rfl) (by kernel_rfl) (fun _ _ _ h => h) (Or.inr ⟨by rfl, rfl⟩) (by assumption) ?rest366
          try simp only [Act.put, List.setIfInBounds_toArray, List.set_cons_zero, List.set_cons_succ]
          refine wpAnyH_take (i := 32) (v := undef) (ops_at rfl) (by kernel_rfl) (by kernel_rfl) (by kernel_rfl) (fun _ _ _ h => h) (Or.inr ⟨by rfl, rfl⟩) (by assumption) ?rest367
          try simp only [Act.put, List.setIfInBounds_toArray, List.set_cons_zero, List.set_cons_succ]
          refine wpAnyH_take (i := 33) (v := ?v368) (ops_at rfl) (by kernel_rfl) (by kernel_rfl) (by kernel_rfl) (fun _ _ _ h => h) (Or.inl ⟨by rfl, ?hy368⟩) (by assumption) ?rest368
          case hy368 => intro w' hSw; (try dsimp only at hSw); go_simp; try with_reducible rfl
          try simp only [Act.put, List.setIfInBounds_toArray, List.set_cons_zero, List.set_cons_succ]
          refine wpAnyH_take (i := 34) (v := ?v369) (ops_at rfl) (by kernel_rfl) (by kernel_rfl) (by kernel_rfl) (fun _ _ _ h => h) (Or.inl ⟨by rfl, ?hy369⟩) (by assumption) ?rest369
          case hy369 => intro w' hSw; (try dsimp only at hSw); go_simp; try with_reducible rfl
          try simp only [Act.put, List.setIfInBounds_toArray, List.set_cons_zero, List.set_cons_succ]
          refine wpAnyH_take (i := 35) (v := ?v370) (ops_at rfl) (by kernel_rfl) (by kernel_rfl) (by kernel_rfl) (fun _ _ _ h => h) (Or.inl ⟨by rfl, ?hy370⟩) (by assumption) ?rest370
          case hy370 => intro w' hSw; (try dsimp only at hSw); go_simp; try with_reducible rfl
          try simp only [Act.put, List.setIfInBounds_toArray, List.set_cons_zero, List.set_cons_succ]
          refine wpAnyH_done (by kernel_rfl) ?_ _
          go_wp2
          go_roundw
          case rel => exact ⟨k + 1, v9, _, _, d9, r9, ys9, aY9, cY9, by omega, rfl, rfl, by go_num, HYs9.out, R9.out, ((((T6.front 4 rfl).front 3 rfl).front 4 rfl).front 5 rfl |>.front 4 rfl).take 5⟩
          case measure => simp [intOf]; omega
      · as_aux_lemma =>
          have q3 : decide ((0 : Int) < (x.n : Int)) = true := decide_eq_true (by omega)
          have q3n : decide (0 < x.n) = true := decide_eq_true (by omega)
          have hfl := HX.out.len
          have HRm9' := room_is (p := x.b) (sz := sz) (u := v9) (by omega) (by omega) R9.out.inv.le
          rw [HX.out.len] at HRm9'
          obtain ⟨b9, hb9⟩ : ∃ b, roomB sz v9 (x.n : Int) = b := ⟨_, rfl⟩
          have q4 : decide (((frameB x.b).length : Int) ≤ ((sz - v9 : Nat) : Int)) = b9 := by rw [← hb9, HRm9']
          have q4n : decide ((frameB x.b).length ≤ sz - v9) = b9 := by rw [← q4, decide_eq_decide]; omega
          have HRm9 := hid hb9
          have q5 : (b9 != b9) = false := by simp
          clear h0 hfl HRm9' hb9
          have lr := R9.out
          have hu9 := lr.inv.le
          have hr9 := lr.inv.room
          have hl9 := lr.len
          have hn9 := lr.few
          have hp9 := lr.psLen
          have hpn9 := lr.psNum
          rw [List.length_map] at hpn9
          have hw9 := lr.waits
          have hok9 : ∀ y ∈ ys9, y.l.length ≤ 4000 := fun y hy => (lr.inv.ok _ (List.mem_map_of_mem hy)).2
          have HOk9 := hid hok9
          have HU9 := hid lr.inv.len_
          have HB9 : Hid (d9.bytes = r9.bytes) := (lr.rel.bytes lr.inv.fit).symm
          have HBl9 : Hid (d9.bytes.length = n) := by rw [Hid, DSt.bytes, dAll_len _ _ lr.inv.fit]; exact lr.len
          have HRl9 : Hid (r9.b.length = n) := by rw [Hid, lr.rel.b]; exact lr.len
          clear hok9 lr
          have q1 : ((v9 : Int) != (v9 : Int)) = false := by simp
          have q2 : IntKind.i64.wrap ((sz : Int) - (v9 : Int)) = ((sz - v9 : Nat) : Int) := by rw [IntKind.wrap_i64]; omega
          go_wp2_with fail
          refine wp_region_held_drew (S := (fun w' => w'.cell? ⟨wr.heap.size, 2, none⟩ = some (.slice x.a x.n x.c))) (by kernel_rfl) (by exact S9.drew.cell 5 rfl 2 rfl) (fun hHeld => ?_)
          change wpAnyH _ _ _ _ _ 36 (Array.replicate 36 false) _ _
          refine wpAnyH_take (i := 0) (v := ?v371) (ops_at rfl) (by kernel_rfl) (by kernel_rfl) (by kernel_rfl) (fun _ _ _ h => h) (Or.inl ⟨by rfl, ?hy371⟩) (by assumption) ?rest371
          case hy371 => intro w' hSw; (try dsimp only at hSw); go_simp; try with_reducible rfl
          try simp only [Act.put, List.setIfInBounds_toArray, List.set_cons_zero, List.set_cons_succ]
          refine wpAnyH_take (i := 2) (v := ?v372) (ops_at rfl) (by kernel_rfl) (by kernel_rfl) (by kernel_rfl) (fun _ _ _ h => h) (Or.inl ⟨by rfl, ?hy372⟩) (by assumption) ?rest372
          case hy372 => intro w' hSw; (try dsimp only at hSw); go_simp; try with_reducible rfl
          try simp only [Act.put, List.setIfInBounds_toArray, List.set_cons_zero, List.set_cons_succ]
          refine wpAnyH_ready (rs := [1]) (by kernel_rfl) (by simp) ?_
          refine AllReadyH.cons (ops_at rfl) (fun K hK => ?_) AllReadyH.nil
          go_simp
          refine (logUsed_any S9.drew).mono ?_
          rintro e w21 ⟨rfl, rfl⟩
          refine hK.out _ _ (by exact S9.drew.cell 5 rfl 2 rfl) (fun hHeld => ?_)
          clear hK K
          try simp only [Act.put, List.setIfInBounds_toArray, List.set_cons_zero, List.set_cons_succ]
          refine wpAnyH_ready (rs := [3]) (by kernel_rfl) (by simp) ?_
          refine AllReadyH.cons (ops_at rfl) (fun K hK => ?_) AllReadyH.nil
          go_simp
          refine (rUsed_any (by exact (S9.drew.front 4 rfl).front 3 rfl) v9 HU9.out (by omega) HYs9.out HOk9.out).mono ?_
          rintro e w22 ⟨rfl, T2⟩
          refine hK.out _ _ (by exact T2.cell 5 rfl 2 rfl) (fun hHeld => ?_)
          clear hK K
          try simp only [Act.put, List.setIfInBounds_toArray, List.set_cons_zero, List.set_cons_succ]
          refine wpAnyH_take (i := 4) (v := ?v375) (ops_at rfl) (by kernel_rfl) (by kernel_rfl) (by kernel_rfl) (fun _ _ _ h => h) (Or.inl ⟨by rfl, ?hy375⟩) (by assumption) ?rest375
          case hy375 => intro w' hSw; (try dsimp only at hSw); go_simp; try with_reducible rfl
          try simp only [Act.put, List.setIfInBounds_toArray, List.set_cons_zero, List.set_cons_succ]
          refine wpAnyH_take (i := 5) (v := ?v376) (ops_at rfl) (by kernel_rfl) (by kernel_rfl) (by kernel_rfl) (fun _ _ _ h => h) (Or.inl ⟨by rfl, ?hy376⟩) (by assumption) ?rest376
          case hy376 => intro w' hSw; (try dsimp only at hSw); go_simp; try with_reducible rfl
          try simp only [Act.put, List.setIfInBounds_toArray, List.set_cons_zero, List.set_cons_succ]
          refine wpAnyH_take (i := 6) (v := ?v377) (ops_at rfl) (by kernel_rfl) (by kernel_rfl) (by kernel_rfl) (fun _ _ _ h => h) (Or.inl ⟨by rfl, ?hy377⟩) (by assumption) ?rest377
          case hy377 => intro w' hSw; (try dsimp only at hSw); go_simp; try with_reducible rfl
          try simp only [Act.put, List.setIfInBounds_toArray, List.set_cons_zero, List.set_cons_succ]
          refine wpAnyH_take (i := 8) (v := ?v378) (ops_at rfl) (by kernel_rfl) (by kernel_rfl) (by kernel_rfl) (fun _ _ _ h => h) (Or.inl ⟨by rfl, ?hy378⟩) (by assumption) ?rest378
          case hy378 => intro w' hSw; (try dsimp only at hSw); go_simp; try with_reducible rfl
          try simp only [Act.put, List.setIfInBounds_toArray, List.set_cons_zero, List.set_cons_succ]
          refine wpAnyH_ready (rs := [7]) (by kernel_rfl) (by simp) ?_
          refine AllReadyH.cons (ops_at rfl) (fun K hK => ?_) AllReadyH.nil
          go_simp
          refine (hbytes (by exact T2) 3 rfl (by omega) n HBl9.out).mono ?_
          rintro e w23 ⟨a23, c23, rfl, T3, -⟩
          refine hK.out _ _ (by exact T3.cell 5 rfl 2 rfl) (fun hHeld => ?_)
          clear hK K
          try simp only [Act.put, List.setIfInBounds_toArray, List.set_cons_zero, List.set_cons_succ]
          refine wpAnyH_ready (rs := [9]) (by kernel_rfl) (by simp) ?_
          refine AllReadyH.cons (ops_at rfl) (fun K hK => ?_) AllReadyH.nil
          go_simp
          refine (rdbytes_any (by exact T3.front 4 rfl) n HRl9.out (by omega)).mono ?_
          rintro e w24 ⟨a24, c24, rfl, T4, -⟩
          refine hK.out _ _ (by exact T4.cell 6 rfl 2 rfl) (fun hHeld => ?_)
          clear hK K
          try simp only [Act.put, List.setIfInBounds_toArray, List.set_cons_zero, List.set_cons_succ]
          refine wpAnyH_ready (rs := [10]) (by kernel_rfl) (by simp) ?_
          refine AllReadyH.cons (ops_at rfl) (fun K hK => ?_) AllReadyH.nil
          go_simp
          refine (hcmp T4 true a23 a24 d9.bytes r9.bytes n n c23 c24 (by rw [HB9.out]; simp) HBl9.out (by rw [← HB9.out]; exact HBl9.out) (by unfold maxLen; omega) (by unfold maxLen; omega) (by exact T4.at 7 rfl) (by exact T4.at 0 rfl)).mono ?_
          rintro e w25 ⟨rfl, T5, -⟩
          refine hK.out _ _ (by exact T5.cell 6 rfl 2 rfl) (fun hHeld => ?_)
          clear hK K
          try simp only [Act.put, List.setIfInBounds_toArray, List.set_cons_zero, List.set_cons_succ]
          refine wpAnyH_take (i := 11) (v := ?v382) (ops_at rfl) (by kernel_rfl) (by kernel_rfl) (by kernel_rfl) (fun _ _ _ h => h) (Or.inl ⟨by rfl, ?hy382⟩) (by assumption) ?rest382
          case hy382 => intro w' hSw; (try dsimp only at hSw); go_simp; try with_reducible rfl
          try simp only [Act.put, List.setIfInBounds_toArray, List.set_cons_zero, List.set_cons_succ]
          refine wpAnyH_take (i := 12) (v := ?v383) (ops_at rfl) (by kernel_rfl) (by kernel_rfl) (by kernel_rfl) (fun _ _ _ h => h) (Or.inl ⟨by rfl, ?hy383⟩) (by assumption) ?rest383
          case hy383 => intro w' hSw; (try dsimp only at hSw); go_simp; try with_reducible rfl
          try simp only [Act.put, List.setIfInBounds_toArray, List.set_cons_zero, List.set_cons_succ]
          refine wpAnyH_take (i := 13) (v := ?v384) (ops_at rfl) (by kernel_rfl) (by kernel_rfl) (by kernel_rfl) (fun _ _ _ h => h) (Or.inl ⟨by rfl, ?hy384⟩) (by assumption) ?rest384
          case hy384 => intro w' hSw; (try dsimp only at hSw); go_simp; try with_reducible rfl
          try simp only [Act.put, List.setIfInBounds_toArray, List.set_cons_zero, List.set_cons_succ]
          refine wpAnyH_take (i := 14) (v := ?v385) (ops_at rfl) (by kernel_rfl) (by kernel_rfl) (by kernel_rfl) (fun _ _ _ h => h) (Or.inl ⟨by rfl, ?hy385⟩) (by assumption) ?rest385
          case hy385 => intro w' hSw; (try dsimp only at hSw); go_simp; try with_reducible rfl
          try simp only [Act.put, List.setIfInBounds_toArray, List.set_cons_zero, List.set_cons_succ]
          refine wpAnyH_take (i := 15) (v := ?v386) (ops_at rfl) (by kernel_rfl) (by kernel_rfl) (by kernel_rfl) (fun _ _ _ h => h) (Or.inl ⟨by rfl, ?hy386⟩) (by assumption) ?rest386
          case hy386 => intro w' hSw; (try dsimp only at hSw); go_simp; try with_reducible rfl
          try simp only [Act.put, List.setIfInBounds_toArray, List.set_cons_zero, List.set_cons_succ]
          refine wpAnyH_take (i := 16) (v := ?v387) (ops_at rfl) (by kernel_rfl) (by kernel_rfl) (by kernel_rfl) (fun _ _ _ h => h) (Or.inl ⟨by rfl, ?hy387⟩) (by assumption) ?rest387
          case hy387 => intro w' hSw; (try dsimp only at hSw); go_simp; try with_reducible rfl
          try simp only [Act.put, List.setIfInBounds_toArray, List.set_cons_zero, List.set_cons_succ]
          refine wpAnyH_take (i := 17) (v := ?v388) (ops_at rfl) (by kernel_rfl) (by kernel_rfl) (by kernel_rfl) (fun _ _ _ h => h) (Or.inl ⟨by rfl, ?hy388⟩) (by assumption) ?rest388
          case hy388 => intro w' hSw; (try dsimp only at hSw); go_simp; try with_reducible rfl
          try simp only [Act.put, List.setIfInBounds_toArray, List.set_cons_zero, List.set_cons_succ]
          refine wpAnyH_take (i := 19) (v := ?v389) (ops_at rfl) (by kernel_rfl) (by kernel_rfl) (by kernel_rfl) (fun _ _ _ h => h) (Or.inl ⟨by rfl, ?hy389⟩) (by assumption) ?rest389
          case hy389 => intro w' hSw; (try dsimp only at hSw); go_simp; try with_reducible rfl
          try simp only [Act.put, List.setIfInBounds_toArray, List.set_cons_zero, List.set_cons_succ]
          refine wpAnyH_take (i := 20) (v := ?v390) (ops_at rfl) (by kernel_rfl) (by kernel_rfl) (by kernel_rfl) (fun _ _ _ h => h) (Or.inl ⟨by rfl, ?hy390⟩) (by assumption) ?rest390
          case hy390 => intro w' hSw; (try dsimp only at hSw); go_simp; try with_reducible rfl
          try simp only [Act.put, List.setIfInBounds_toArray, List.set_cons_zero, List.set_cons_succ]
          refine wpAnyH_take (i := 21) (v := ?v391) (ops_at rfl) (by kernel_rfl) (by kernel_rfl) (by kernel_rfl) (fun _ _ _ h => h) (Or.inl ⟨by rfl, ?hy391⟩) (by assumption) ?rest391
          case hy391 => intro w' hSw; (try dsimp only at hSw); go_simp; try with_reducible rfl
          try simp only [Act.put, List.setIfInBounds_toArray, List.set_cons_zero, List.set_cons_succ]
          refine wpAnyH_take (i := 22) (v := ?v392) (ops_at rfl) (by kernel_rfl) (by kernel_rfl) (by kernel_rfl) (fun _ _ _ h => h) (Or.inl ⟨by rfl, ?hy392⟩) (by assumption) ?rest392
          case hy392 => intro w' hSw; (try dsimp only at hSw); go_simp; try with_reducible rfl
          try simp only [Act.put, List.setIfInBounds_toArray, List.set_cons_zero, List.set_cons_succ]
          refine wpAnyH_ready (rs := [18]) (by kernel_rfl) (by simp) ?_
          refine AllReadyH.cons (ops_at rfl) (fun K hK => ?_) AllReadyH.nil
          go_simp
          refine (room_any (by exact T5.front 4 rfl) (x.n : Int) (by omega) (by omega)).mono ?_
          rintro e w26 ⟨rfl, T6, -⟩
          refine hK.out _ _ (by exact T6.cell 6 rfl 2 rfl) (fun hHeld => ?_)
          clear hK K
          try simp only [Act.put, List.setIfInBounds_toArray, List.set_cons_zero, List.set_cons_succ]
          rw [HRm9.out]
          refine wpAnyH_take (i := 23) (v := ?v394) (ops_at rfl) (by kernel_rfl) (by kernel_rfl) (by kernel_rfl) (fun _ _ _ h => h) (Or.inl ⟨by rfl, ?hy394⟩) (by assumption) ?rest394
          case hy394 => intro w' hSw; (try dsimp only at hSw); go_simp; try with_reducible rfl
          try simp only [Act.put, List.setIfInBounds_toArray, List.set_cons_zero, List.set_cons_succ]
          refine wpAnyH_take (i := 24) (v := ?v395) (ops_at rfl) (by kernel_rfl) (by kernel_rfl) (by kernel_rfl) (fun _ _ _ h => h) (Or.inl ⟨by rfl, ?hy395⟩) (by assumption) ?rest395
          case hy395 => intro w' hSw; (try dsimp only at hSw); go_simp; try with_reducible rfl
          try simp only [Act.put, List.setIfInBounds_toArray, List.set_cons_zero, List.set_cons_succ]
          refine wpAnyH_take (i := 25) (v := ?v396) (ops_at rfl) (by kernel_rfl) (by kernel_rfl) (by kernel_rfl) (fun _ _ _ h => h) (Or.inl ⟨by rfl, ?hy396⟩) (by assumption) ?rest396
          case hy396 => intro w' hSw; (try dsimp only at hSw); go_simp; try with_reducible rfl
          try simp only [Act.put, List.setIfInBounds_toArray, List.set_cons_zero, List.set_cons_succ]
          refine wpAnyH_take (i := 28) (v := ?v397) (ops_at rfl) (by kernel_rfl) (by kernel_rfl) (by kernel_rfl) (fun _ _ _ h => h) (Or.inl ⟨by rfl, ?hy397⟩) (by assumption) ?rest397
          case hy397 => intro w' hSw; (try dsimp only at hSw); go_simp; try with_reducible rfl
          try simp only [Act.put, List.setIfInBounds_toArray, List.set_cons_zero, List.set_cons_succ]
          refine wpAnyH_take (i := 29) (v := ?v398) (ops_at rfl) (by kernel_rfl) (by kernel_rfl) (by kernel_rfl) (fun _ _ _ h => h) (Or.inl ⟨by rfl, ?hy398⟩) (by assumption) ?rest398
          case hy398 => intro w' hSw; (try dsimp only at hSw); go_simp; try with_reducible rfl
          try simp only [Act.put, List.setIfInBounds_toArray, List.set_cons_zero, List.set_cons_succ]
          refine wpAnyH_ready (rs := [26]) (by kernel_rfl) (by simp) ?_
          refine AllReadyH.cons (ops_at rfl) (fun K hK => ?_) AllReadyH.nil
          go_simp
          refine (rfrPut_any x.a x.b x.n x.c _ HX.out.len (by omega) (by exact T6.old HX.out.isAt)).mono ?_
          rintro e w27 ⟨a27, c27, rfl, -, hb27⟩
          have T7 := T6.grow hb27
          refine hK.out _ _ (by exact T7.cell 6 rfl 2 rfl) (fun hHeld => ?_)
          clear hK K
          try simp only [Act.put, List.setIfInBounds_toArray, List.set_cons_zero, List.set_cons_succ]
          refine wpAnyH_take (i := 27) (v := ?v400) (ops_at rfl) (by kernel_rfl) (by kernel_rfl) (by kernel_rfl) (fun _ _ _ h => h) (Or.inl ⟨by rfl, ?hy400⟩) (by assumption) ?rest400
          case hy400 => intro w' hSw; (try dsimp only at hSw); go_simp; try with_reducible rfl
          try simp only [Act.put, List.setIfInBounds_toArray, List.set_cons_zero, List.set_cons_succ]
          refine wpAnyH_ready (rs := [30]) (by kernel_rfl) (by simp) ?_
          refine AllReadyH.cons (ops_at rfl) (fun K hK => ?_) AllReadyH.nil
          go_simp
          refine (rUsed_any (by exact (T7.front 4 rfl).front 4 rfl) v9 HU9.out (by omega) HYs9.out HOk9.out).mono ?_
          rintro e w28 ⟨rfl, T8⟩
          refine hK.out _ _ (by exact T8.cell 6 rfl 2 rfl) (fun hHeld => ?_)
          clear hK K
          try simp only [Act.put, List.setIfInBounds_toArray, List.set_cons_zero, List.set_cons_succ]
          refine wpAnyH_take (i := 31) (v := ?v402) (ops_at rfl) (by kernel_rfl) (by kernel_rfl) (by kernel_rfl) (fun _ _ _ h => h) (Or.inl ⟨by rfl, ?hy402⟩) (by assumption) ?rest402
          case hy402 => intro w' hSw; (try dsimp only at hSw); go_simp; try with_reducible rfl
          try simp only [Act.put, List.setIfInBounds_toArray, List.set_cons_zero, List.set_cons_succ]
          refine wpAnyH_take (i := 32) (v := ?v403) (ops_at rfl) (by kernel_rfl) (by kernel_rfl) (by kernel_rfl) (fun _ _ _ h => h) (Or.inl ⟨by rfl, ?hy403⟩) (by assumption) ?rest403
          case hy403 => intro w' hSw; (try dsimp only at hSw); go_simp; try with_reducible rfl
          try simp only [Act.put, List.setIfInBounds_toArray, List.set_cons_zero, List.set_cons_succ]
          refine wpAnyH_take (i := 33) (v := ?v404) (ops_at rfl) (by kernel_rfl) (by kernel_rfl) (by kernel_rfl) (fun _ _ _ h => h) (Or.inl ⟨by rfl, ?hy404⟩) (by assumption) ?rest404
          case hy404 => intro w' hSw; (try dsimp only at hSw); go_simp; try with_reducible rfl
          try simp only [Act.put, List.setIfInBounds_toArray, List.set_cons_zero, List.set_cons_succ]
          refine wpAnyH_take (i := 34) (v := ?v405) (ops_at rfl) (by kernel_rfl) (by kernel_rfl) (by kernel_rfl) (fun _ _ _ h => h) (Or.inl ⟨by rfl, ?hy405⟩) (by assumption) ?rest405
          case hy405 => intro w' hSw; (try dsimp only at hSw); go_simp; try with_reducible rfl
          try simp only [Act.put, List.setIfInBounds_toArray, List.set_cons_zero, List.set_cons_succ]
          refine wpAnyH_take (i := 35) (v := ?v406) (ops_at rfl) (by kernel_rfl) (by kernel_rfl) (by kernel_rfl) (fun _ _ _ h => h) (Or.inl ⟨by rfl, ?hy406⟩) (by assumption) ?rest406
          case hy406 => intro w' hSw; (try dsimp only at hSw); go_simp; try with_reducible rfl
          try simp only [Act.put, List.setIfInBounds_toArray, List.set_cons_zero, List.set_cons_succ]
          refine wpAnyH_done (by kernel_rfl) ?_ _
          go_wp2
          go_roundw
          case rel => exact ⟨k + 1, v9, _, _, d9, r9, ys9, aY9, cY9, by omega, rfl, rfl, by go_num, HYs9.out, R9.out, ((((T8.front 1 rfl).front 4 rfl |>.front 2 rfl).front 5 rfl).front 4 rfl).take 5⟩
          case measure => simp [intOf]; omega
    have g4' : (x.kind == 4) = false := by simpa using hk4
    clear hk0 hk1 hk3 hk2 hk4
    obtain ⟨v9, hv9⟩ : ∃ v9, u = v9 := ⟨_, rfl⟩
    obtain ⟨d9, hd9⟩ : ∃ d9, d = d9 := ⟨_, rfl⟩
    obtain ⟨r9, hr9⟩ : ∃ r9, r = r9 := ⟨_, rfl⟩
    obtain ⟨ys9, hys9⟩ : ∃ ys9, xs = ys9 := ⟨_, rfl⟩
    obtain ⟨aY9, haY9⟩ : ∃ aY9, aL = aY9 := ⟨_, rfl⟩
    obtain ⟨cY9, hcY9⟩ : ∃ cY9, cL = cY9 := ⟨_, rfl⟩
    have S9 := S5
    have R9 := hid (HR.out.le (j := 1 + 2 * (k + 1)) (by omega))
    have HYs9 := HXs
    rw [hv9, hd9, hr9, hys9, haY9, hcY9] at S9
    rw [hv9, hd9, hr9, hys9] at R9
    rw [hys9] at HYs9
    clear hv9 hd9 hr9 hys9 haY9 hcY9
    by_cases h0 : x.n = 0
    · as_aux_lemma =>
        have q3 : decide ((0 : Int) < (x.n : Int)) = false := decide_eq_false (by omega)
        have q3n : decide (0 < x.n) = false := decide_eq_false (by omega)
        have HRm9 : Hid (roomB sz v9 (x.n : Int) = false) := by rw [Hid]; unfold roomB; rw [h0]; simp
        clear h0
        have lr := R9.out
        have hu9 := lr.inv.le
        have hr9 := lr.inv.room
        have hl9 := lr.len
        have hn9 := lr.few
        have hp9 := lr.psLen
        have hpn9 := lr.psNum
        rw [List.length_map] at hpn9
        have hw9 := lr.waits
        have hok9 : ∀ y ∈ ys9, y.l.length ≤ 4000 := fun y hy => (lr.inv.ok _ (List.mem_map_of_mem hy)).2
        have HOk9 := hid hok9
        have HU9 := hid lr.inv.len_
        have HB9 : Hid (d9.bytes = r9.bytes) := (lr.rel.bytes lr.inv.fit).symm
        have HBl9 : Hid (d9.bytes.length = n) := by rw [Hid, DSt.bytes, dAll_len _ _ lr.inv.fit]; exact lr.len
        have HRl9 : Hid (r9.b.length = n) := by rw [Hid, lr.rel.b]; exact lr.len
        clear hok9 lr
        have q1 : ((v9 : Int) != (v9 : Int)) = false := by simp
        have q2 : IntKind.i64.wrap ((sz : Int) - (v9 : Int)) = ((sz - v9 : Nat) : Int) := by rw [IntKind.wrap_i64]; omega
        go_wp2_with fail
        refine wp_region_held_drew (S := (fun w' => w'.cell? ⟨wr.heap.size, 2, none⟩ = some (.slice x.a x.n x.c))) (by kernel_rfl) (by exact S9.drew.cell 5 rfl 2 rfl) (fun hHeld => ?_)
        change wpAnyH _ _ _ _ _ 36 (Array.replicate 36 false) _ _
        refine wpAnyH_take (i := 0) (v := ?v407) (ops_at rfl) (by kernel_rfl) (by kernel_rfl) (by kernel_rfl) (fun _ _ _ h => h) (Or.inl ⟨by rfl, ?hy407⟩) (by assumption) ?rest407
        case hy407 => intro w' hSw; (try dsimp only at hSw); go_simp; try with_reducible rfl
        try simp only [Act.put, List.setIfInBounds_toArray, List.set_cons_zero, List.set_cons_succ]
        refine wpAnyH_take (i := 2) (v := ?v408) (ops_at rfl) (by kernel_rfl) (by kernel_rfl) (by kernel_rfl) (fun _ _ _ h => h) (Or.inl ⟨by rfl, ?hy408⟩) (by assumption) ?rest408
        case hy408 => intro w' hSw; (try dsimp only at hSw); go_simp; try with_reducible rfl
        try simp only [Act.put, List.setIfInBounds_toArray, List.set_cons_zero, List.set_cons_succ]
        refine wpAnyH_ready (rs := [1]) (by kernel_rfl) (by simp) ?_
        refine AllReadyH.cons (ops_at rfl) (fun K hK => ?_) AllReadyH.nil
        go_simp
        refine (logUsed_any S9.drew).mono ?_
        rintro e w21 ⟨rfl, rfl⟩
        refine hK.out _ _ (by exact S9.drew.cell 5 rfl 2 rfl) (fun hHeld => ?_)
        clear hK K
        try simp only [Act.put, List.setIfInBounds_toArray, List.set_cons_zero, List.set_cons_succ]
        refine wpAnyH_ready (rs := [3]) (by kernel_rfl) (by simp) ?_
        refine AllReadyH.cons (ops_at rfl) (fun K hK => ?_) AllReadyH.nil
        go_simp
        refine (rUsed_any (by exact (S9.drew.front 4 rfl).front 3 rfl) v9 HU9.out (by omega) HYs9.out HOk9.out).mono ?_
        rintro e w22 ⟨rfl, T2⟩
        refine hK.out _ _ (by exact T2.cell 5 rfl 2 rfl) (fun hHeld => ?_)
        clear hK K
        try simp only [Act.put, List.setIfInBounds_toArray, List.set_cons_zero, List.set_cons_succ]
        refine wpAnyH_take (i := 4) (v := ?v411) (ops_at rfl) (by kernel_rfl) (by kernel_rfl) (by kernel_rfl) (fun _ _ _ h => h) (Or.inl ⟨by rfl, ?hy411⟩) (by assumption) ?rest411
        case hy411 => intro w' hSw; (try dsimp only at hSw); go_simp; try with_reducible rfl
        try simp only [Act.put, List.setIfInBounds_toArray, List.set_cons_zero, List.set_cons_succ]
        refine wpAnyH_take (i := 5) (v := ?v412) (ops_at rfl) (by kernel_rfl) (by kernel_rfl) (by kernel_rfl) (fun _ _ _ h => h) (Or.inl ⟨by rfl, ?hy412⟩) (by assumption) ?rest412
        case hy412 => intro w' hSw; (try dsimp only at hSw); go_simp; try with_reducible rfl
        try simp only [Act.put, List.setIfInBounds_toArray, List.set_cons_zero, List.set_cons_succ]
        refine wpAnyH_take (i := 6) (v := ?v413) (ops_at rfl) (by kernel_rfl) (by kernel_rfl) (by kernel_rfl) (fun _ _ _ h => h) (Or.inl ⟨by rfl, ?hy413⟩) (by assumption) ?rest413
        case hy413 => intro w' hSw; (try dsimp only at hSw); go_simp; try with_reducible rfl
        try simp only [Act.put, List.setIfInBounds_toArray, List.set_cons_zero, List.set_cons_succ]
        refine wpAnyH_take (i := 8) (v := ?v414) (ops_at rfl) (by kernel_rfl) (by kernel_rfl) (by kernel_rfl) (fun _ _ _ h => h) (Or.inl ⟨by rfl, ?hy414⟩) (by assumption) ?rest414
        case hy414 => intro w' hSw; (try dsimp only at hSw); go_simp; try with_reducible rfl
        try simp only [Act.put, List.setIfInBounds_toArray, List.set_cons_zero, List.set_cons_succ]
        refine wpAnyH_ready (rs := [7]) (by kernel_rfl) (by simp) ?_
        refine AllReadyH.cons (ops_at rfl) (fun K hK => ?_) AllReadyH.nil
        go_simp
        refine (hbytes (by exact T2) 3 rfl (by omega) n HBl9.out).mono ?_
        rintro e w23 ⟨a23, c23, rfl, T3, -⟩
        refine hK.out _ _ (by exact T3.cell 5 rfl 2 rfl) (fun hHeld => ?_)
        clear hK K
        try simp only [Act.put, List.setIfInBounds_toArray, List.set_cons_zero, List.set_cons_succ]
        refine wpAnyH_ready (rs := [9]) (by kernel_rfl) (by simp) ?_
        refine AllReadyH.cons (ops_at rfl) (fun K hK => ?_) AllReadyH.nil
        go_simp
        refine (rdbytes_any (by exact T3.front 4 rfl) n HRl9.out (by omega)).mono ?_
        rintro e w24 ⟨a24, c24, rfl, T4, -⟩
        refine hK.out _ _ (by exact T4.cell 6 rfl 2 rfl) (fun hHeld => ?_)
        clear hK K
        try simp only [Act.put, List.setIfInBounds_toArray, List.set_cons_zero, List.set_cons_succ]
        refine wpAnyH_ready (rs := [10]) (by kernel_rfl) (by simp) ?_
        refine AllReadyH.cons (ops_at rfl) (fun K hK => ?_) AllReadyH.nil
        go_simp
        refine (hcmp T4 true a23 a24 d9.bytes r9.bytes n n c23 c24 (by rw [HB9.out]; simp) HBl9.out (by rw [← HB9.out]; exact HBl9.out) (by unfold maxLen; omega) (by unfold maxLen; omega) (by exact T4.at 7 rfl) (by exact T4.at 0 rfl)).mono ?_
        rintro e w25 ⟨rfl, T5, -⟩
        refine hK.out _ _ (by exact T5.cell 6 rfl 2 rfl) (fun hHeld => ?_)
        clear hK K
        try simp only [Act.put, List.setIfInBounds_toArray, List.set_cons_zero, List.set_cons_succ]
        refine wpAnyH_take (i := 11) (v := ?v418) (ops_at rfl) (by kernel_rfl) (by kernel_rfl) (by kernel_rfl) (fun _ _ _ h => h) (Or.inl ⟨by rfl, ?hy418⟩) (by assumption) ?rest418
        case hy418 => intro w' hSw; (try dsimp only at hSw); go_simp; try with_reducible rfl
        try simp only [Act.put, List.setIfInBounds_toArray, List.set_cons_zero, List.set_cons_succ]
        refine wpAnyH_take (i := 12) (v := ?v419) (ops_at rfl) (by kernel_rfl) (by kernel_rfl) (by kernel_rfl) (fun _ _ _ h => h) (Or.inl ⟨by rfl, ?hy419⟩) (by assumption) ?rest419
        case hy419 => intro w' hSw; (try dsimp only at hSw); go_simp; try with_reducible rfl
        try simp only [Act.put, List.setIfInBounds_toArray, List.set_cons_zero, List.set_cons_succ]
        refine wpAnyH_take (i := 13) (v := ?v420) (ops_at rfl) (by kernel_rfl) (by kernel_rfl) (by kernel_rfl) (fun _ _ _ h => h) (Or.inl ⟨by rfl, ?hy420⟩) (by assumption) ?rest420
        case hy420 => intro w' hSw; (try dsimp only at hSw); go_simp; try with_reducible rfl
        try simp only [Act.put, List.setIfInBounds_toArray, List.set_cons_zero, List.set_cons_succ]
        refine wpAnyH_take (i := 14) (v := ?v421) (ops_at rfl) (by kernel_rfl) (by kernel_rfl) (by kernel_rfl) (fun _ _ _ h => h) (Or.inl ⟨by rfl, ?hy421⟩) (by assumption) ?rest421
        case hy421 => intro w' hSw; (try dsimp only at hSw); go_simp; try with_reducible rfl
        try simp only [Act.put, List.setIfInBounds_toArray, List.set_cons_zero, List.set_cons_succ]
        refine wpAnyH_take (i := 15) (v := ?v422) (ops_at rfl) (by kernel_rfl) (by kernel_rfl) (by kernel_rfl) (fun _ _ _ h => h) (Or.inl ⟨by rfl, ?hy422⟩) (by assumption) ?rest422
        case hy422 => intro w' hSw; (try dsimp only at hSw); go_simp; try with_reducible rfl
        try simp only [Act.put, List.setIfInBounds_toArray, List.set_cons_zero, List.set_cons_succ]
        refine wpAnyH_take (i := 16) (v := ?v423) (ops_at rfl) (by kernel_rfl) (by kernel_rfl) (by kernel_rfl) (fun _ _ _ h => h) (Or.inl ⟨by rfl, ?hy423⟩) (by assumption) ?rest423
        case hy423 => intro w' hSw; (try dsimp only at hSw); go_simp; try with_reducible rfl
        try simp only [Act.put, List.setIfInBounds_toArray, List.set_cons_zero, List.set_cons_succ]
        refine wpAnyH_take (i := 17) (v := ?v424) (ops_at rfl) (by kernel_rfl) (by kernel_rfl) (by kernel_rfl) (fun _ _ _ h => h) (Or.inl ⟨by rfl, ?hy424⟩) (by assumption) ?rest424
        case hy424 => intro w' hSw; (try dsimp only at hSw); go_simp; try with_reducible rfl
        try simp only [Act.put, List.setIfInBounds_toArray, List.set_cons_zero, List.set_cons_succ]
        refine wpAnyH_take (i := 19) (v := ?v425) (ops_at rfl) (by kernel_rfl) (by kernel_rfl) (by kernel_rfl) (fun _ _ _ h => h) (Or.inl ⟨by rfl, ?hy425⟩) (by assumption) ?rest425
        case hy425 => intro w' hSw; (try dsimp only at hSw); go_simp; try with_reducible rfl
        try simp only [Act.put, List.setIfInBounds_toArray, List.set_cons_zero, List.set_cons_succ]
        refine wpAnyH_take (i := 20) (v := ?v426) (ops_at rfl) (by kernel_rfl) (by kernel_rfl) (by kernel_rfl) (fun _ _ _ h => h) (Or.inl ⟨by rfl, ?hy426⟩) (by assumption) ?rest426
        case hy426 => intro w' hSw; (try dsimp only at hSw); go_simp; try with_reducible rfl
        try simp only [Act.put, List.setIfInBounds_toArray, List.set_cons_zero, List.set_cons_succ]
        refine wpAnyH_take (i := 21) (v := ?v427) (ops_at rfl) (by kernel_rfl) (by kernel_rfl) (by kernel_rfl) (fun _ _ _ h => h) (Or.inl ⟨by rfl, ?hy427⟩) (by assumption) ?rest427
        case hy427 => intro w' hSw; (try dsimp only at hSw); go_simp; try with_reducible rfl
        try simp only [Act.put, List.setIfInBounds_toArray, List.set_cons_zero, List.set_cons_succ]
        refine wpAnyH_take (i := 22) (v := ?v428) (ops_at rfl) (by kernel_rfl) (by kernel_rfl) (by kernel_rfl) (fun _ _ _ h => h) (Or.inl ⟨by rfl, ?hy428⟩) (by assumption) ?rest428
        case hy428 => intro w' hSw; (try dsimp only at hSw); go_simp; try with_reducible rfl
        try simp only [Act.put, List.setIfInBounds_toArray, List.set_cons_zero, List.set_cons_succ]
        refine wpAnyH_ready (rs := [18]) (by kernel_rfl) (by simp) ?_
        refine AllReadyH.cons (ops_at rfl) (fun K hK => ?_) AllReadyH.nil
        go_simp
        refine (room_any (by exact T5.front 4 rfl) (x.n : Int) (by omega) (by omega)).mono ?_
        rintro e w26 ⟨rfl, T6, -⟩
        refine hK.out _ _ (by exact T6.cell 6 rfl 2 rfl) (fun hHeld => ?_)
        clear hK K
        try simp only [Act.put, List.setIfInBounds_toArray, List.set_cons_zero, List.set_cons_succ]
        rw [HRm9.out]
        refine wpAnyH_take (i := 23) (v := ?v430) (ops_at rfl) (by kernel_rfl) (by kernel_rfl) (by kernel_rfl) (fun _ _ _ h => h) (Or.inl ⟨by rfl, ?hy430⟩) (by assumption) ?rest430
        case hy430 => intro w' hSw; (try dsimp only at hSw); go_simp; try with_reducible rfl
        try simp only [Act.put, List.setIfInBounds_toArray, List.set_cons_zero, List.set_cons_succ]
        refine wpAnyH_take (i := 24) (v := undef) (ops_at rfl) (by kernel_rfl) (by kernel_rfl) (by kernel_rfl) (fun _ _ _ h => h) (Or.inr ⟨by rfl, rfl⟩) (by assumption) ?rest431
        try simp only [Act.put, List.setIfInBounds_toArray, List.set_cons_zero, List.set_cons_succ]
        refine wpAnyH_take (i := 25) (v := undef) (ops_at rfl) (by kernel_rfl) (by kernel_rfl) (by kernel_rfl) (fun _ _ _ h => h) (Or.inr ⟨by rfl, rfl⟩) (by assumption) ?rest432
        try simp only [Act.put, List.setIfInBounds_toArray, List.set_cons_zero, List.set_cons_succ]
        refine wpAnyH_take (i := 26) (v := undef) (ops_at rfl) (by kernel_rfl) (by kernel_rfl) (by kernel_rfl) (fun _ _ _ h => h) (Or.inr ⟨by rfl, rfl⟩) (by assumption) ?rest433
        try simp only [Act.put, List.setIfInBounds_toArray, List.set_cons_zero, List.set_cons_succ]
        refine wpAnyH_take (i := 27) (v := undef) (ops_at rfl) (by kernel_rfl) (by kernel_rfl) (by kernel_rfl) (fun _ _ _ h => h) (Or.inr ⟨by rfl, rfl⟩) (by assumption) ?rest434
        try simp only [Act.put, List.setIfInBounds_toArray, List.set_cons_zero, List.set_cons_succ]
        refine wpAnyH_take (i := 28) (v := undef) (ops_at rfl) (by kernel_rfl) (by kernel_rfl) (by kernel_rfl) (fun _ _ _ h => h) (Or.inr ⟨by rfl, rfl⟩) (by assumption) ?rest435
        try simp only [Act.put, List.setIfInBounds_toArray, List.set_cons_zero, List.set_cons_succ]
        refine wpAnyH_take (i := 29) (v := undef) (ops_at rfl) (by kernel_rfl) (by kernel_rfl) (by kernel_rfl) (fun _ _ _ h => h) (Or.inr ⟨by rfl, rfl⟩) (by assumption) ?rest436
        try simp only [Act.put, List.setIfInBounds_toArray, List.set_cons_zero, List.set_cons_succ]
        refine wpAnyH_take (i := 30) (v := undef) (ops_at rfl) (by kernel_rfl) (by kernel_rfl) (by kernel_rfl) (fun _ _ _ h => h) (Or.inr ⟨by rfl, rfl⟩) (by assumption) ?rest437
        try simp only [Act.put, List.setIfInBounds_toArray, List.set_cons_zero, List.set_cons_succ]
        refine wpAnyH_take (i := 31) (v := undef) (ops_at rfl) (by kernel_rfl) (by kernel_rfl) (by kernel_rfl) (fun _ _ _ h => h) (Or.inr ⟨by rfl, rfl⟩) (by assumption) ?rest438
        try simp only [Act.put, List.setIfInBounds_toArray, List.set_cons_zero, List.set_cons_succ]
        refine wpAnyH_take (i := 32) (v := undef) (ops_at rfl) (by kernel_rfl) (by kernel_rfl) (by kernel_rfl) (fun _ _ _ h => h) (Or.inr ⟨by rfl, rfl⟩) (by assumption) ?rest439
        try simp only [Act.put, List.setIfInBounds_toArray, List.set_cons_zero, List.set_cons_succ]
        refine wpAnyH_take (i := 33) (v := ?v440) (ops_at rfl) (by kernel_rfl) (by kernel_rfl) (by kernel_rfl) (fun _ _ _ h => h) (Or.inl ⟨by rfl, ?hy440⟩) (by assumption) ?rest440
        case hy440 => intro w' hSw; (try dsimp only at hSw); go_simp; try with_reducible rfl
        try simp only [Act.put, List.setIfInBounds_toArray, List.set_cons_zero, List.set_cons_succ]
        refine wpAnyH_take (i := 34) (v := ?v441) (ops_at rfl) (by kernel_rfl) (by kernel_rfl) (by kernel_rfl) (fun _ _ _ h => h) (Or.inl ⟨by rfl, ?hy441⟩) (by assumption) ?rest441
        case hy441 => intro w' hSw; (try dsimp only at hSw); go_simp; try with_reducible rfl
        try simp only [Act.put, List.setIfInBounds_toArray, List.set_cons_zero, List.set_cons_succ]
        refine wpAnyH_take (i := 35) (v := ?v442) (ops_at rfl) (by kernel_rfl) (by kernel_rfl) (by kernel_rfl) (fun _ _ _ h => h) (Or.inl ⟨by rfl, ?hy442⟩) (by assumption) ?rest442
        case hy442 => intro w' hSw; (try dsimp only at hSw); go_simp; try with_reducible rfl
        try simp only [Act.put, List.setIfInBounds_toArray, List.set_cons_zero, List.set_cons_succ]
        refine wpAnyH_done (by kernel_rfl) ?_ _
        go_wp2
        go_roundw
        case rel => exact ⟨k + 1, v9, _, _, d9, r9, ys9, aY9, cY9, by omega, rfl, rfl, by go_num, HYs9.out, R9.out, ((((T6.front 4 rfl).front 3 rfl).front 4 rfl).front 5 rfl |>.front 4 rfl).take 5⟩
        case measure => simp [intOf]; omega
    · as_aux_lemma =>
        have q3 : decide ((0 : Int) < (x.n : Int)) = true := decide_eq_true (by omega)
        have q3n : decide (0 < x.n) = true := decide_eq_true (by omega)
        have hfl := HX.out.len
        have HRm9' := room_is (p := x.b) (sz := sz) (u := v9) (by omega) (by omega) R9.out.inv.le
        rw [HX.out.len] at HRm9'
        obtain ⟨b9, hb9⟩ : ∃ b, roomB sz v9 (x.n : Int) = b := ⟨_, rfl⟩
        have q4 : decide (((frameB x.b).length : Int) ≤ ((sz - v9 : Nat) : Int)) = b9 := by rw [← hb9, HRm9']
        have q4n : decide ((frameB x.b).length ≤ sz - v9) = b9 := by rw [← q4, decide_eq_decide]; omega
        have HRm9 := hid hb9
        have q5 : (b9 != b9) = false := by simp
        clear h0 hfl HRm9' hb9
        have lr := R9.out
        have hu9 := lr.inv.le
        have hr9 := lr.inv.room
        have hl9 := lr.len
        have hn9 := lr.few
        have hp9 := lr.psLen
        have hpn9 := lr.psNum
        rw [List.length_map] at hpn9
        have hw9 := lr.waits
        have hok9 : ∀ y ∈ ys9, y.l.length ≤ 4000 := fun y hy => (lr.inv.ok _ (List.mem_map_of_mem hy)).2
        have HOk9 := hid hok9
        have HU9 := hid lr.inv.len_
        have HB9 : Hid (d9.bytes = r9.bytes) := (lr.rel.bytes lr.inv.fit).symm
        have HBl9 : Hid (d9.bytes.length = n) := by rw [Hid, DSt.bytes, dAll_len _ _ lr.inv.fit]; exact lr.len
        have HRl9 : Hid (r9.b.length = n) := by rw [Hid, lr.rel.b]; exact lr.len
        clear hok9 lr
        have q1 : ((v9 : Int) != (v9 : Int)) = false := by simp
        have q2 : IntKind.i64.wrap ((sz : Int) - (v9 : Int)) = ((sz - v9 : Nat) : Int) := by rw [IntKind.wrap_i64]; omega
        go_wp2_with fail
        refine wp_region_held_drew (S := (fun w' => w'.cell? ⟨wr.heap.size, 2, none⟩ = some (.slice x.a x.n x.c))) (by kernel_rfl) (by exact S9.drew.cell 5 rfl 2 rfl) (fun hHeld => ?_)
        change wpAnyH _ _ _ _ _ 36 (Array.replicate 36 false) _ _
        refine wpAnyH_take (i := 0) (v := ?v443) (ops_at rfl) (by kernel_rfl) (by kernel_rfl) (by kernel_rfl) (fun _ _ _ h => h) (Or.inl ⟨by rfl, ?hy443⟩) (by assumption) ?rest443
        case hy443 => intro w' hSw; (try dsimp only at hSw); go_simp; try with_reducible rfl
        try simp only [Act.put, List.setIfInBounds_toArray, List.set_cons_zero, List.set_cons_succ]
        refine wpAnyH_take (i := 2) (v := ?v444) (ops_at rfl) (by kernel_rfl) (by kernel_rfl) (by kernel_rfl) (fun _ _ _ h => h) (Or.inl ⟨by rfl, ?hy444⟩) (by assumption) ?rest444
        case hy444 => intro w' hSw; (try dsimp only at hSw); go_simp; try with_reducible rfl
        try simp only [Act.put, List.setIfInBounds_toArray, List.set_cons_zero, List.set_cons_succ]
        refine wpAnyH_ready (rs := [1]) (by kernel_rfl) (by simp) ?_
        refine AllReadyH.cons (ops_at rfl) (fun K hK => ?_) AllReadyH.nil
        go_simp
        refine (logUsed_any S9.drew).mono ?_
        rintro e w21 ⟨rfl, rfl⟩
        refine hK.out _ _ (by exact S9.drew.cell 5 rfl 2 rfl) (fun hHeld => ?_)
        clear hK K
        try simp only [Act.put, List.setIfInBounds_toArray, List.set_cons_zero, List.set_cons_succ]
        refine wpAnyH_ready (rs := [3]) (by kernel_rfl) (by simp) ?_
        refine AllReadyH.cons (ops_at rfl) (fun K hK => ?_) AllReadyH.nil
        go_simp
        refine (rUsed_any (by exact (S9.drew.front 4 rfl).front 3 rfl) v9 HU9.out (by omega) HYs9.out HOk9.out).mono ?_
        rintro e w22 ⟨rfl, T2⟩
        refine hK.out _ _ (by exact T2.cell 5 rfl 2 rfl) (fun hHeld => ?_)
        clear hK K
        try simp only [Act.put, List.setIfInBounds_toArray, List.set_cons_zero, List.set_cons_succ]
        refine wpAnyH_take (i := 4) (v := ?v447) (ops_at rfl) (by kernel_rfl) (by kernel_rfl) (by kernel_rfl) (fun _ _ _ h => h) (Or.inl ⟨by rfl, ?hy447⟩) (by assumption) ?rest447
        case hy447 => intro w' hSw; (try dsimp only at hSw); go_simp; try with_reducible rfl
        try simp only [Act.put, List.setIfInBounds_toArray, List.set_cons_zero, List.set_cons_succ]
        refine wpAnyH_take (i := 5) (v := ?v448) (ops_at rfl) (by kernel_rfl) (by kernel_rfl) (by kernel_rfl) (fun _ _ _ h => h) (Or.inl ⟨by rfl, ?hy448⟩) (by assumption) ?rest448
        case hy448 => intro w' hSw; (try dsimp only at hSw); go_simp; try with_reducible rfl
        try simp only [Act.put, List.setIfInBounds_toArray, List.set_cons_zero, List.set_cons_succ]
        refine wpAnyH_take (i := 6) (v := ?v449) (ops_at rfl) (by kernel_rfl) (by kernel_rfl) (by kernel_rfl) (fun _ _ _ h => h) (Or.inl ⟨by rfl, ?hy449⟩) (by assumption) ?rest449
        case hy449 => intro w' hSw; (try dsimp only at hSw); go_simp; try with_reducible rfl
        try simp only [Act.put, List.setIfInBounds_toArray, List.set_cons_zero, List.set_cons_succ]
        refine wpAnyH_take (i := 8) (v := ?v450) (ops_at rfl) (by kernel_rfl) (by kernel_rfl) (by kernel_rfl) (fun _ _ _ h => h) (Or.inl ⟨by rfl, ?hy450⟩) (by assumption) ?rest450
        case hy450 => intro w' hSw; (try dsimp only at hSw); go_simp; try with_reducible rfl
        try simp only [Act.put, List.setIfInBounds_toArray, List.set_cons_zero, List.set_cons_succ]
        refine wpAnyH_ready (rs := [7]) (by kernel_rfl) (by simp) ?_
        refine AllReadyH.cons (ops_at rfl) (fun K hK => ?_) AllReadyH.nil
        go_simp
        refine (hbytes (by exact T2) 3 rfl (by omega) n HBl9.out).mono ?_
        rintro e w23 ⟨a23, c23, rfl, T3, -⟩
        refine hK.out _ _ (by exact T3.cell 5 rfl 2 rfl) (fun hHeld => ?_)
        clear hK K
        try simp only [Act.put, List.setIfInBounds_toArray, List.set_cons_zero, List.set_cons_succ]
        refine wpAnyH_ready (rs := [9]) (by kernel_rfl) (by simp) ?_
        refine AllReadyH.cons (ops_at rfl) (fun K hK => ?_) AllReadyH.nil
        go_simp
        refine (rdbytes_any (by exact T3.front 4 rfl) n HRl9.out (by omega)).mono ?_
        rintro e w24 ⟨a24, c24, rfl, T4, -⟩
        refine hK.out _ _ (by exact T4.cell 6 rfl 2 rfl) (fun hHeld => ?_)
        clear hK K
        try simp only [Act.put, List.setIfInBounds_toArray, List.set_cons_zero, List.set_cons_succ]
        refine wpAnyH_ready (rs := [10]) (by kernel_rfl) (by simp) ?_
        refine AllReadyH.cons (ops_at rfl) (fun K hK => ?_) AllReadyH.nil
        go_simp
        refine (hcmp T4 true a23 a24 d9.bytes r9.bytes n n c23 c24 (by rw [HB9.out]; simp) HBl9.out (by rw [← HB9.out]; exact HBl9.out) (by unfold maxLen; omega) (by unfold maxLen; omega) (by exact T4.at 7 rfl) (by exact T4.at 0 rfl)).mono ?_
        rintro e w25 ⟨rfl, T5, -⟩
        refine hK.out _ _ (by exact T5.cell 6 rfl 2 rfl) (fun hHeld => ?_)
        clear hK K
        try simp only [Act.put, List.setIfInBounds_toArray, List.set_cons_zero, List.set_cons_succ]
        refine wpAnyH_take (i := 11) (v := ?v454) (ops_at rfl) (by kernel_rfl) (by kernel_rfl) (by kernel_rfl) (fun _ _ _ h => h) (Or.inl ⟨by rfl, ?hy454⟩) (by assumption) ?rest454
        case hy454 => intro w' hSw; (try dsimp only at hSw); go_simp; try with_reducible rfl
        try simp only [Act.put, List.setIfInBounds_toArray, List.set_cons_zero, List.set_cons_succ]
        refine wpAnyH_take (i := 12) (v := ?v455) (ops_at rfl) (by kernel_rfl) (by kernel_rfl) (by kernel_rfl) (fun _ _ _ h => h) (Or.inl ⟨by rfl, ?hy455⟩) (by assumption) ?rest455
        case hy455 => intro w' hSw; (try dsimp only at hSw); go_simp; try with_reducible rfl
        try simp only [Act.put, List.setIfInBounds_toArray, List.set_cons_zero, List.set_cons_succ]
        refine wpAnyH_take (i := 13) (v := ?v456) (ops_at rfl) (by kernel_rfl) (by kernel_rfl) (by kernel_rfl) (fun _ _ _ h => h) (Or.inl ⟨by rfl, ?hy456⟩) (by assumption) ?rest456
        case hy456 => intro w' hSw; (try dsimp only at hSw); go_simp; try with_reducible rfl
        try simp only [Act.put, List.setIfInBounds_toArray, List.set_cons_zero, List.set_cons_succ]
        refine wpAnyH_take (i := 14) (v := ?v457) (ops_at rfl) (by kernel_rfl) (by kernel_rfl) (by kernel_rfl) (fun _ _ _ h => h) (Or.inl ⟨by rfl, ?hy457⟩) (by assumption) ?rest457
        case hy457 => intro w' hSw; (try dsimp only at hSw); go_simp; try with_reducible rfl
        try simp only [Act.put, List.setIfInBounds_toArray, List.set_cons_zero, List.set_cons_succ]
        refine wpAnyH_take (i := 15) (v := ?v458) (ops_at rfl) (by kernel_rfl) (by kernel_rfl) (by kernel_rfl) (fun _ _ _ h => h) (Or.inl ⟨by rfl, ?hy458⟩) (by assumption) ?rest458
        case hy458 => intro w' hSw; (try dsimp only at hSw); go_simp; try with_reducible rfl
        try simp only [Act.put, List.setIfInBounds_toArray, List.set_cons_zero, List.set_cons_succ]
        refine wpAnyH_take (i := 16) (v := ?v459) (ops_at rfl) (by kernel_rfl) (by kernel_rfl) (by kernel_rfl) (fun _ _ _ h => h) (Or.inl ⟨by rfl, ?hy459⟩) (by assumption) ?rest459
        case hy459 => intro w' hSw; (try dsimp only at hSw); go_simp; try with_reducible rfl
        try simp only [Act.put, List.setIfInBounds_toArray, List.set_cons_zero, List.set_cons_succ]
        refine wpAnyH_take (i := 17) (v := ?v460) (ops_at rfl) (by kernel_rfl) (by kernel_rfl) (by kernel_rfl) (fun _ _ _ h => h) (Or.inl ⟨by rfl, ?hy460⟩) (by assumption) ?rest460
        case hy460 => intro w' hSw; (try dsimp only at hSw); go_simp; try with_reducible rfl
        try simp only [Act.put, List.setIfInBounds_toArray, List.set_cons_zero, List.set_cons_succ]
        refine wpAnyH_take (i := 19) (v := ?v461) (ops_at rfl) (by kernel_rfl) (by kernel_rfl) (by kernel_rfl) (fun _ _ _ h => h) (Or.inl ⟨by rfl, ?hy461⟩) (by assumption) ?rest461
        case hy461 => intro w' hSw; (try dsimp only at hSw); go_simp; try with_reducible rfl
        try simp only [Act.put, List.setIfInBounds_toArray, List.set_cons_zero, List.set_cons_succ]
        refine wpAnyH_take (i := 20) (v := ?v462) (ops_at rfl) (by kernel_rfl) (by kernel_rfl) (by kernel_rfl) (fun _ _ _ h => h) (Or.inl ⟨by rfl, ?hy462⟩) (by assumption) ?rest462
        case hy462 => intro w' hSw; (try dsimp only at hSw); go_simp; try with_reducible rfl
        try simp only [Act.put, List.setIfInBounds_toArray, List.set_cons_zero, List.set_cons_succ]
        refine wpAnyH_take (i := 21) (v := ?v463) (ops_at rfl) (by kernel_rfl) (by kernel_rfl) (by kernel_rfl) (fun _ _ _ h => h) (Or.inl ⟨by rfl, ?hy463⟩) (by assumption) ?rest463
        case hy463 => intro w' hSw; (try dsimp only at hSw); go_simp; try with_reducible rfl
        try simp only [Act.put, List.setIfInBounds_toArray, List.set_cons_zero, List.set_cons_succ]
        refine wpAnyH_take (i := 22) (v := ?v464) (ops_at rfl) (by kernel_rfl) (by kernel_rfl) (by kernel_rfl) (fun _ _ _ h => h) (Or.inl ⟨by rfl, ?hy464⟩) (by assumption) ?rest464
        case hy464 => intro w' hSw; (try dsimp only at hSw); go_simp; try with_reducible rfl
        try simp only [Act.put, List.setIfInBounds_toArray, List.set_cons_zero, List.set_cons_succ]
        refine wpAnyH_ready (rs := [18]) (by kernel_rfl) (by simp) ?_
        refine AllReadyH.cons (ops_at rfl) (fun K hK => ?_) AllReadyH.nil
        go_simp
        refine (room_any (by exact T5.front 4 rfl) (x.n : Int) (by omega) (by omega)).mono ?_
        rintro e w26 ⟨rfl, T6, -⟩
        refine hK.out _ _ (by exact T6.cell 6 rfl 2 rfl) (fun hHeld => ?_)
        clear hK K
        try simp only [Act.put, List.setIfInBounds_toArray, List.set_cons_zero, List.set_cons_succ]
        rw [HRm9.out]
        refine wpAnyH_take (i := 23) (v := ?v466) (ops_at rfl) (by kernel_rfl) (by kernel_rfl) (by kernel_rfl) (fun _ _ _ h => h) (Or.inl ⟨by rfl, ?hy466⟩) (by assumption) ?rest466
        case hy466 => intro w' hSw; (try dsimp only at hSw); go_simp; try with_reducible rfl
        try simp only [Act.put, List.setIfInBounds_toArray, List.set_cons_zero, List.set_cons_succ]
        refine wpAnyH_take (i := 24) (v := ?v467) (ops_at rfl) (by kernel_rfl) (by kernel_rfl) (by kernel_rfl) (fun _ _ _ h => h) (Or.inl ⟨by rfl, ?hy467⟩) (by assumption) ?rest467
        case hy467 => intro w' hSw; (try dsimp only at hSw); go_simp; try with_reducible rfl
        try simp only [Act.put, List.setIfInBounds_toArray, List.set_cons_zero, List.set_cons_succ]
        refine wpAnyH_take (i := 25) (v := ?v468) (ops_at rfl) (by kernel_rfl) (by kernel_rfl) (by kernel_rfl) (fun _ _ _ h => h) (Or.inl ⟨by rfl, ?hy468⟩) (by assumption) ?rest468
        case hy468 => intro w' hSw; (try dsimp only at hSw); go_simp; try with_reducible rfl
        try simp only [Act.put, List.setIfInBounds_toArray, List.set_cons_zero, List.set_cons_succ]
        refine wpAnyH_take (i := 28) (v := ?v469) (ops_at rfl) (by kernel_rfl) (by kernel_rfl) (by kernel_rfl) (fun _ _ _ h => h) (Or.inl ⟨by rfl, ?hy469⟩) (by assumption) ?rest469
        case hy469 => intro w' hSw; (try dsimp only at hSw); go_simp; try with_reducible rfl
        try simp only [Act.put, List.setIfInBounds_toArray, List.set_cons_zero, List.set_cons_succ]
        refine wpAnyH_take (i := 29) (v := ?v470) (ops_at rfl) (by kernel_rfl) (by kernel_rfl) (by kernel_rfl) (fun _ _ _ h => h) (Or.inl ⟨by rfl, ?hy470⟩) (by assumption) ?rest470
        case hy470 => intro w' hSw; (try dsimp only at hSw); go_simp; try with_reducible rfl
        try simp only [Act.put, List.setIfInBounds_toArray, List.set_cons_zero, List.set_cons_succ]
        refine wpAnyH_ready (rs := [26]) (by kernel_rfl) (by simp) ?_
        refine AllReadyH.cons (ops_at rfl) (fun K hK => ?_) AllReadyH.nil
        go_simp
        refine (rfrPut_any x.a x.b x.n x.c _ HX.out.len (by omega) (by exact T6.old HX.out.isAt)).mono ?_
        rintro e w27 ⟨a27, c27, rfl, -, hb27⟩
        have T7 := T6.grow hb27
        refine hK.out _ _ (by exact T7.cell 6 rfl 2 rfl) (fun hHeld => ?_)
        clear hK K
        try simp only [Act.put, List.setIfInBounds_toArray, List.set_cons_zero, List.set_cons_succ]
        refine wpAnyH_take (i := 27) (v := ?v472) (ops_at rfl) (by kernel_rfl) (by kernel_rfl) (by kernel_rfl) (fun _ _ _ h => h) (Or.inl ⟨by rfl, ?hy472⟩) (by assumption) ?rest472
        case hy472 => intro w' hSw; (try dsimp only at hSw); go_simp; try with_reducible rfl
        try simp only [Act.put, List.setIfInBounds_toArray, List.set_cons_zero, List.set_cons_succ]
        refine wpAnyH_ready (rs := [30]) (by kernel_rfl) (by simp) ?_
        refine AllReadyH.cons (ops_at rfl) (fun K hK => ?_) AllReadyH.nil
        go_simp
        refine (rUsed_any (by exact (T7.front 4 rfl).front 4 rfl) v9 HU9.out (by omega) HYs9.out HOk9.out).mono ?_
        rintro e w28 ⟨rfl, T8⟩
        refine hK.out _ _ (by exact T8.cell 6 rfl 2 rfl) (fun hHeld => ?_)
        clear hK K
        try simp only [Act.put, List.setIfInBounds_toArray, List.set_cons_zero, List.set_cons_succ]
        refine wpAnyH_take (i := 31) (v := ?v474) (ops_at rfl) (by kernel_rfl) (by kernel_rfl) (by kernel_rfl) (fun _ _ _ h => h) (Or.inl ⟨by rfl, ?hy474⟩) (by assumption) ?rest474
        case hy474 => intro w' hSw; (try dsimp only at hSw); go_simp; try with_reducible rfl
        try simp only [Act.put, List.setIfInBounds_toArray, List.set_cons_zero, List.set_cons_succ]
        refine wpAnyH_take (i := 32) (v := ?v475) (ops_at rfl) (by kernel_rfl) (by kernel_rfl) (by kernel_rfl) (fun _ _ _ h => h) (Or.inl ⟨by rfl, ?hy475⟩) (by assumption) ?rest475
        case hy475 => intro w' hSw; (try dsimp only at hSw); go_simp; try with_reducible rfl
        try simp only [Act.put, List.setIfInBounds_toArray, List.set_cons_zero, List.set_cons_succ]
        refine wpAnyH_take (i := 33) (v := ?v476) (ops_at rfl) (by kernel_rfl) (by kernel_rfl) (by kernel_rfl) (fun _ _ _ h => h) (Or.inl ⟨by rfl, ?hy476⟩) (by assumption) ?rest476
        case hy476 => intro w' hSw; (try dsimp only at hSw); go_simp; try with_reducible rfl
        try simp only [Act.put, List.setIfInBounds_toArray, List.set_cons_zero, List.set_cons_succ]
        refine wpAnyH_take (i := 34) (v := ?v477) (ops_at rfl) (by kernel_rfl) (by kernel_rfl) (by kernel_rfl) (fun _ _ _ h => h) (Or.inl ⟨by rfl, ?hy477⟩) (by assumption) ?rest477
        case hy477 => intro w' hSw; (try dsimp only at hSw); go_simp; try with_reducible rfl
        try simp only [Act.put, List.setIfInBounds_toArray, List.set_cons_zero, List.set_cons_succ]
        refine wpAnyH_take (i := 35) (v := ?v478) (ops_at rfl) (by kernel_rfl) (by kernel_rfl) (by kernel_rfl) (fun _ _ _ h => h) (Or.inl ⟨by rfl, ?hy478⟩) (by assumption) ?rest478
        case hy478 => intro w' hSw; (try dsimp only at hSw); go_simp; try with_reducible rfl
        try simp only [Act.put, List.setIfInBounds_toArray, List.set_cons_zero, List.set_cons_succ]
        refine wpAnyH_done (by kernel_rfl) ?_ _
        go_wp2
        go_roundw
        case rel => exact ⟨k + 1, v9, _, _, d9, r9, ys9, aY9, cY9, by omega, rfl, rfl, by go_num, HYs9.out, R9.out, ((((T8.front 1 rfl).front 4 rfl |>.front 2 rfl).front 5 rfl).front 4 rfl).take 5⟩
        case measure => simp [intOf]; omega

end Go.Proofs.Ytkkailggpfmgaaa
