/- JournalRooms. -/
import Derived.Test.YtmfbbonppmhabaaJournalLaw
import Derived.Test.YtmfbbonppmhabaaOpens
namespace Go.Proofs.Ytmfbbonppmhabaa
set_option linter.unusedVariables false
set_option linter.unusedSimpArgs false
open Go.RowKit
theorem small_num {c : Nat} (h : c ≤ 127) : (codeNum (c : Int)).length = 1 := by rw [codeNum_yes (by omega), num_last (f := 7) (by omega)]; rfl
theorem small_frame {c : Nat} {l : List UInt8} (h : c ≤ 127) (h2 : l.length ≤ 100) : (frameB (codeNum (c : Int) ++ l)).length = l.length + 7 := by
  have h1 := small_num h
  rw [frame_short (by rw [List.length_append]; omega) (by rw [List.length_append]; omega), List.length_append]
  omega
theorem JInv.empty {N q sz used k : Nat} {d : DSt} {o : Option (List UInt8 × Nat)} (h : JInv N q sz d used o [] k) : used = 0 := by rw [← h.log.len_]; rfl
theorem JInv.mono {N q sz used k m : Nat} {d : DSt} {o : Option (List UInt8 × Nat)} {ops : List (List UInt8)} (h : JInv N q sz d used o ops k) (hm : k ≤ m) : JInv N q sz d used o ops m := ⟨h.log, h.shows, h.waits, h.len, by have := h.syncs; omega, h.ne, by have := h.few; omega⟩
/-- A picture is taken, if there is an op, or none. -/
theorem takes_new {N q sz used k : Nat} {d : DSt} {o : Option (List UInt8 × Nat)} {ops : List (List UInt8)} (h : JInv N q sz d used o ops k) (hne : ops ≠ [] ∨ o = none) {p : List UInt8} (hc : picA o + ops.length ≤ 127) (hp : p.length ≤ 100) (hq : p.length + 7 ≤ q) : Takes d 0 q p (picA o + ops.length) ∧ jAge o ≠ jCnt o ops := by
  have h1 := small_num hc
  refine ⟨⟨isNum_of (by omega), ?_, by rw [List.length_append]; omega, by rw [List.length_append]; omega, by rw [small_frame hc hp]; exact hq⟩, ?_⟩
  · rw [h.shows]
    cases o with
    | none => rfl
    | some x =>
      have h2 : 0 < ops.length := by
        rcases hne with h | h
        · exact List.length_pos_iff.2 h
        · cases h
      show decide (((picA (some x) + ops.length : Nat) : Int) ≤ (x.2 : Int)) = false
      exact decide_eq_false (by show ¬ (((x.2 + ops.length : Nat) : Int) ≤ (x.2 : Int)); omega)
  · unfold jCnt
    cases o with
    | none => show (-1 : Int) ≠ _; omega
    | some x =>
      have h2 : 0 < ops.length := by
        rcases hne with h | h
        · exact List.length_pos_iff.2 h
        · cases h
      show (x.2 : Int) ≠ ((x.2 + ops.length : Nat) : Int)
      omega
set_option maxRecDepth 100000 in
set_option maxHeartbeats 6400000 in
theorem journalRooms_law (a : Option Addr) (L : List BS) (n ca : Nat) (w : World) (hn : L.length = n) (hm : n ≤ maxLen) (hA : AtG eS w a L) (hok : ∀ x ∈ L, BS.Hd x ∧ At w x.a x.l) :
    Calls Try.prog 3 #[.slice a n ca] w fun e w' => e = .returned (.bool true) ∧ Below w.heap.size w w' := by
  have HN := hid hn
  have HA := hid hA
  have HOk := hid hok
  unfold maxLen at hm
  have S0 := St.start w
  have G : JGeo 300 75 150 := ⟨by omega, by omega, by omega, by omega⟩
  have HJ := hid (jNew G)
  clear hn hA hok
  go_enter Try.func3, Try.ntmps3
  go_wp2_with fail
  refine (alive7_any _).mono ?_
  rintro e w1 ⟨rfl, hb1⟩
  have S1 := S0.grow hb1
  clear hb1
  by_cases hn60 : n ≤ 60
  case neg =>
    have g0 : decide ((60 : Int) < (n : Int)) = true := decide_eq_true (by omega)
    have g0n : decide (60 < n) = true := decide_eq_true (by omega)
    go_wp2
    go_ret
    exact ⟨rfl, S1.fin⟩
  have g0 : decide ((60 : Int) < (n : Int)) = false := decide_eq_false (by omega)
  have g0n : decide (60 < n) = false := decide_eq_false (by omega)
  go_wp2_with fail
  refine (hnew S1 300 (by omega) (by omega)).mono ?_
  rintro e w2 ⟨pd, rfl, S2, -⟩
  obtain ⟨D, hD, d1, d2, d3, d4, d5, d6, H1⟩ := HJ.out
  rw [hD] at S2
  clear hD HJ S1
  have S2' : St w w2 [diskT pd D] := S2
  go_wp2_with fail
  refine (jOpenI S2' G (by decide) d2 (by omega) (by rw [d1]; simp) (by rw [d3]; omega) d4 d5 d6).mono ?_
  rintro e w3 ⟨gj, gl, gs, a2, b2, c2, m2, kk2, xs2, rfl, -, -, -, -, -, -, S3'⟩
  have S3 : St w w3 (jL gj gl gs pd 75 150 0 (jDisk D 75 150) none [] []) := S3'.take 4
  clear S2 S2' S3' S0 d1 d2 d3 d4 d5 d6 g0 g0n
  have HH := hid H1
  clear H1
  go_wp2_with fail
  go_loopw [8, 9, 10, 11] (fun i z1 z2 z3 wr => ∃ (k used : Nat) (d : DSt) (o : Option (List UInt8 × Nat)) (ops : List (List UInt8)) (x1 x2 x3 : Value), k ≤ n ∧ i = .int .i64 k ∧ z1 = x1 ∧ z2 = x2 ∧ z3 = x3 ∧ JInv 300 75 150 d used o ops (2 * k + 1) ∧ picA o + ops.length ≤ k ∧ St w wr (jL gj gl gs pd 75 150 used d o ops [])) (fun i _ _ _ _ => n - (intOf i).toNat)
  case atStart => exact ⟨0, 0, _, none, [], _, _, _, Nat.zero_le _, rfl, rfl, rfl, rfl, HH.out, by simp [picA], S3⟩
  case round =>
    obtain ⟨k, used, d, o, ops, x1, x2, x3, hk, rfl, rfl, rfl, rfl, hI, hc, Sk⟩ := hrel
    have HI := hid hI
    clear hI S3
    by_cases hlt : k < n
    case neg =>
      have g0 : decide ((k : Int) < (n : Int)) = false := decide_eq_false (by omega)
      have g0n : decide (k < n) = false := decide_eq_false (by omega)
      go_wp2
      go_ret
      exact ⟨rfl, Sk.fin⟩
    have g0 : decide ((k : Int) < (n : Int)) = true := decide_eq_true (by omega)
    have g0n : decide (k < n) = true := decide_eq_true (by omega)
    have hkL : k < L.length := by rw [HN.out]; exact hlt
    have i0 := fun wx => idxS a n ca (fun h => HA.out.ok (by rw [HN.out]; exact h)) k k rfl hlt wx
    have HX := hid (HOk.out _ (List.getElem_mem hkL))
    have HC : Hid (∀ w', Below w.heap.size w w' → w'.cell? (adr a k) = some (.slice L[k].a L[k].n L[k].c)) := fun w' h => (HA.out.all eSok h).cellS hkL
    generalize L[k] = x at *
    generalize adr a k = A at *
    have x0 := HC.out _ Sk.fin
    have hxl := HX.out.1.len
    by_cases q1 : x.n < 1
    · have g1 : decide ((x.n : Int) < 1) = true := decide_eq_true (by omega)
      have g1n : decide (x.n < 1) = true := decide_eq_true (by omega)
      go_wp2
      go_ret
      exact ⟨rfl, Sk.fin⟩
    have g1 : decide ((x.n : Int) < 1) = false := decide_eq_false (by omega)
    have g1n : decide (x.n < 1) = false := decide_eq_false (by omega)
    by_cases q2 : 60 < x.n
    · have g2 : decide ((60 : Int) < (x.n : Int)) = true := decide_eq_true (by omega)
      have g2n : decide (60 < x.n) = true := decide_eq_true (by omega)
      go_wp2
      go_ret
      exact ⟨rfl, Sk.fin⟩
    have g2 : decide ((60 : Int) < (x.n : Int)) = false := decide_eq_false (by omega)
    have g2n : decide (60 < x.n) = false := decide_eq_false (by omega)
    obtain ⟨rb, hrb⟩ : ∃ rb, jRoom 150 used (jCnt o ops) (x.l.length : Int) = rb := ⟨_, rfl⟩
    have HRb := hid hrb
    have hrb2 : jRoom 150 used (jCnt o ops) (x.n : Int) = rb := by rw [← hxl]; exact hrb
    have HRb2 := hid hrb2
    have hcb : 0 ≤ jCnt o ops ∧ jCnt o ops ≤ 60 := by unfold jCnt; omega
    have hu := HI.out.log.le
    clear hrb hrb2 hxl
    have HXl := hid HX.out.1.len
    go_upto_region 12 with fail
    go_cut [9, 10] from 25 to 57 (fun s9 s10 wc => s9 = .int .i64 (jCnt o ops) ∧ s10 = .bool rb ∧ St w wc (jL gj gl gs pd 75 150 used d o ops []))
    case first =>
      have keep : ∀ {w' : World} {r : List Thing}, St w w' r → w'.cell? A = some (.slice x.a x.n x.c) := fun S => HC.out _ S.fin
      refine wp_region_held_drew (S := (fun w' => w'.cell? A = some (.slice x.a x.n x.c))) (by kernel_rfl) (by exact keep Sk.drew) (fun hHeld => ?_)
      change wpAnyH _ _ _ _ _ 11 (Array.replicate 11 false) _ _
      refine wpAnyH_take (i := 0) (v := ?v1) (ops_at rfl) (by kernel_rfl) (by kernel_rfl) (by kernel_rfl) (fun _ _ _ h => h) (Or.inl ⟨by rfl, ?hy1⟩) (by assumption) ?rest1
      case hy1 => intro w' hSw; (try dsimp only at hSw); go_simp; try with_reducible rfl
      try simp only [Act.put, List.setIfInBounds_toArray, List.set_cons_zero, List.set_cons_succ]
      refine wpAnyH_take (i := 2) (v := ?v2) (ops_at rfl) (by kernel_rfl) (by kernel_rfl) (by kernel_rfl) (fun _ _ _ h => h) (Or.inl ⟨by rfl, ?hy2⟩) (by assumption) ?rest2
      case hy2 => intro w' hSw; (try dsimp only at hSw); go_simp; try with_reducible rfl
      try simp only [Act.put, List.setIfInBounds_toArray, List.set_cons_zero, List.set_cons_succ]
      refine wpAnyH_take (i := 3) (v := ?v3) (ops_at rfl) (by kernel_rfl) (by kernel_rfl) (by kernel_rfl) (fun _ _ _ h => h) (Or.inl ⟨by rfl, ?hy3⟩) (by assumption) ?rest3
      case hy3 => intro w' hSw; (try dsimp only at hSw); go_simp; try with_reducible rfl
      try simp only [Act.put, List.setIfInBounds_toArray, List.set_cons_zero, List.set_cons_succ]
      refine wpAnyH_take (i := 4) (v := ?v4) (ops_at rfl) (by kernel_rfl) (by kernel_rfl) (by kernel_rfl) (fun _ _ _ h => h) (Or.inl ⟨by rfl, ?hy4⟩) (by assumption) ?rest4
      case hy4 => intro w' hSw; (try dsimp only at hSw); go_simp; try with_reducible rfl
      try simp only [Act.put, List.setIfInBounds_toArray, List.set_cons_zero, List.set_cons_succ]
      refine wpAnyH_take (i := 5) (v := ?v5) (ops_at rfl) (by kernel_rfl) (by kernel_rfl) (by kernel_rfl) (fun _ _ _ h => h) (Or.inl ⟨by rfl, ?hy5⟩) (by assumption) ?rest5
      case hy5 => intro w' hSw; (try dsimp only at hSw); go_simp; try with_reducible rfl
      try simp only [Act.put, List.setIfInBounds_toArray, List.set_cons_zero, List.set_cons_succ]
      refine wpAnyH_take (i := 6) (v := ?v6) (ops_at rfl) (by kernel_rfl) (by kernel_rfl) (by kernel_rfl) (fun _ _ _ h => h) (Or.inl ⟨by rfl, ?hy6⟩) (by assumption) ?rest6
      case hy6 => intro w' hSw; (try dsimp only at hSw); go_simp; try with_reducible rfl
      try simp only [Act.put, List.setIfInBounds_toArray, List.set_cons_zero, List.set_cons_succ]
      refine wpAnyH_take (i := 7) (v := ?v7) (ops_at rfl) (by kernel_rfl) (by kernel_rfl) (by kernel_rfl) (fun _ _ _ h => h) (Or.inl ⟨by rfl, ?hy7⟩) (by assumption) ?rest7
      case hy7 => intro w' hSw; (try dsimp only at hSw); go_simp; try with_reducible rfl
      try simp only [Act.put, List.setIfInBounds_toArray, List.set_cons_zero, List.set_cons_succ]
      refine wpAnyH_ready (rs := [1]) (by kernel_rfl) (by simp) ?_
      refine AllReadyH.cons (ops_at rfl) (fun K hK => ?_) AllReadyH.nil
      go_simp
      refine (jlCount Sk.drew).mono ?_
      rintro e w4 ⟨rfl, rfl⟩
      refine hK.out _ _ (by exact keep Sk.drew) (fun hHeld => ?_)
      clear hK K
      try simp only [Act.put, List.setIfInBounds_toArray, List.set_cons_zero, List.set_cons_succ]
      refine wpAnyH_ready (rs := [8]) (by kernel_rfl) (by simp) ?_
      refine AllReadyH.cons (ops_at rfl) (fun K hK => ?_) AllReadyH.nil
      go_simp
      refine (jlRoom Sk.drew (x.n : Int) ⟨hcb.1, by omega⟩ (by omega) (by omega)).mono ?_
      rintro e w5 ⟨rfl, S5, -⟩
      rw [HRb2.out]
      refine hK.out _ _ (by exact keep S5) (fun hHeld => ?_)
      clear hK K
      try simp only [Act.put, List.setIfInBounds_toArray, List.set_cons_zero, List.set_cons_succ]
      refine wpAnyH_take (i := 9) (v := ?v10) (ops_at rfl) (by kernel_rfl) (by kernel_rfl) (by kernel_rfl) (fun _ _ _ h => h) (Or.inl ⟨by rfl, ?hy10⟩) (by assumption) ?rest10
      case hy10 => intro w' hSw; (try dsimp only at hSw); go_simp; try with_reducible rfl
      try simp only [Act.put, List.setIfInBounds_toArray, List.set_cons_zero, List.set_cons_succ]
      refine wpAnyH_take (i := 10) (v := ?v11) (ops_at rfl) (by kernel_rfl) (by kernel_rfl) (by kernel_rfl) (fun _ _ _ h => h) (Or.inl ⟨by rfl, ?hy11⟩) (by assumption) ?rest11
      case hy11 => intro w' hSw; (try dsimp only at hSw); go_simp; try with_reducible rfl
      try simp only [Act.put, List.setIfInBounds_toArray, List.set_cons_zero, List.set_cons_succ]
      refine wpAnyH_done (by kernel_rfl) ?_ _
      go_wp2_with fail
      go_meet
      exact ⟨rfl, rfl, S5⟩
    case rest =>
    obtain ⟨rfl, rfl, S4⟩ := hcut
    clear Sk
    have x4 := HC.out _ S4.fin
    have hmx : x.n ≤ maxLen := Nat.le_trans HX.out.1.le HX.out.1.big
    cases rb
    case true =>
      obtain ⟨d', used', -, H2, C2⟩ := jAppI S4 HI.out G (by omega) x.a x.l x.n x.c HXl.out hmx HX.out.1.le HX.out.1.nil (Reads.old HX.out.2) HRb.out
      have hst := cnt_step o ops x.l
      have HH2 := hid H2
      have HC2 := hid C2
      have HSt := hid hst
      clear H2 C2 hst
      go_wp2_with fail
      refine HC2.out.mono ?_
      rintro e w6 ⟨rfl, S6⟩
      have b1 : (true != true) = false := rfl
      go_wp2_with fail
      refine (jlCount S6).mono ?_
      rintro e w7 ⟨rfl, rfl⟩
      rw [← HSt.out]
      generalize jCnt o ops = c at *
      have hwr : IntKind.i64.wrap (c + 1) = c + 1 := by rw [IntKind.wrap_i64]; omega
      have b2 : (c + 1 != c + 1) = false := by simp
      go_wp2
      go_roundw
      case rel => exact ⟨k + 1, used', d', o, ops ++ [x.l], _, _, _, by omega, by go_num, rfl, rfl, rfl, HH2.out.mono (by omega), by rw [List.length_append, List.length_singleton]; omega, S6⟩
      case measure => simp [intOf]; omega
    case false =>
      have hops : ops ≠ [] := by
        intro e
        subst e
        have h0 := HI.out.empty
        have h1 := HRb.out
        subst h0
        rw [jRoom_is (by rw [HXl.out]; omega) (by rw [HXl.out]; omega)] at h1
        have h2 := small_frame (c := picA o + ([] : List (List UInt8)).length) (l := x.l) (by omega) (by rw [HXl.out]; omega)
        have h3 : (frameB (codeNum (jCnt o []) ++ x.l)).length = x.l.length + 7 := h2
        rw [h3, HXl.out] at h1
        simp at h1
        omega
      have HC1 := hid (jAppNo S4 HI.out G (by omega) x.a x.l x.n x.c HXl.out hmx HX.out.1.le HX.out.1.nil (Reads.old HX.out.2) HRb.out)
      obtain ⟨t1, t2⟩ := takes_new HI.out (.inl hops) (p := []) (by omega) (by simp) (by simp)
      have HT1 := hid t1
      have HT2 := hid t2
      clear t1 t2 hops
      go_wp2_with fail
      refine HC1.out.mono ?_
      rintro e w6 ⟨z, rfl, hz, S6⟩
      have hz0 : (z == 0) = false := by rcases hz with h | h <;> rw [h] <;> rfl
      have b1 : (jCnt o ops != jCnt o ops) = false := by simp
      clear hz HC1
      go_wp2_with fail
      refine (jlCount S6).mono ?_
      rintro e w7 ⟨rfl, rfl⟩
      go_wp2_with fail
      rcases jCompI S6 HI.out G (by omega) none [] 0 0 rfl (by omega) (by omega) (fun _ => rfl) (Reads.old (At.nil _ _)) with ⟨-, -, D3, H3, C3⟩ | ⟨h1, -⟩
      case inr =>
        exfalso
        rcases h1 with h1 | h1
        · exact HT2.out h1
        · exact h1 HT1.out
      have HH3 := hid H3
      clear H3
      refine C3.mono ?_
      rintro e w8 ⟨rfl, S8⟩
      clear C3
      have b3 : (jCnt (some ([], picA o + ops.length)) [] != jCnt o ops) = false := by
        show (jCnt o ops != jCnt o ops) = false
        simp
      go_wp2_with fail
      refine (jlCount S8).mono ?_
      rintro e w9 ⟨rfl, rfl⟩
      have x8 := HC.out _ S8.fin
      have hr3 : jRoom 150 0 (jCnt (some ([], picA o + ops.length)) []) (x.l.length : Int) = true := by
        rw [jRoom_is (by rw [HXl.out]; omega) (by rw [HXl.out]; omega)]
        have h2 := small_frame (c := picA o + ops.length) (l := x.l) (by omega) (by rw [HXl.out]; omega)
        have h3 : (frameB (codeNum (jCnt (some ([], picA o + ops.length)) []) ++ x.l)).length = x.l.length + 7 := h2
        rw [h3, HXl.out]
        exact decide_eq_true (by omega)
      obtain ⟨d', used', -, H4, C4⟩ := jAppI S8 HH3.out G (by omega) x.a x.l x.n x.c HXl.out hmx HX.out.1.le HX.out.1.nil (Reads.old HX.out.2) hr3
      have HH4 := hid H4
      have HC4 := hid C4
      clear H4 C4 hr3
      go_wp2_with fail
      refine HC4.out.mono ?_
      rintro e w10 ⟨rfl, S10⟩
      go_wp2
      go_roundw
      case rel => exact ⟨k + 1, used', d', some ([], picA o + ops.length), [x.l], _, _, _, by omega, by go_num, rfl, rfl, rfl, HH4.out.mono (by omega), by show picA o + ops.length + 1 ≤ k + 1; omega, S10⟩
      case measure => simp [intOf]; omega
end Go.Proofs.Ytmfbbonppmhabaa
