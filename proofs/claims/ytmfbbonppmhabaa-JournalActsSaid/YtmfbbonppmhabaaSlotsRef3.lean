/- The document's slots (dunnageref06): Start. -/
import Derived.Test.YtmfbbonppmhabaaSlotsRef2
namespace Go.Proofs.Ytmfbbonppmhabaa
set_option linter.unusedVariables false
set_option linter.unusedSimpArgs false
open Go.RowKit

theorem picI_ge (o : Option (List UInt8 × Nat)) : -1 ≤ picI o := by
  rcases o with _ | p
  · exact Int.le_refl _
  · show (-1 : Int) ≤ (p.2 : Int); omega
section
variable {w0 w : World} {tl : List Thing} {pr : Value} {r : RD} {g fr sz : Nat}
theorem RD.write_len2 (r : RD) (a : Int) (l : List UInt8) : (r.write a l).ps.length ≤ r.ps.length + l.length ∧ (r.write a l).syncs = r.syncs ∧ (r.write a l).b = r.b := by
  unfold RD.write
  split
  · exact ⟨Nat.le_add_right _ _, rfl, rfl⟩
  · exact ⟨by simp, rfl, rfl⟩
set_option maxRecDepth 10000 in
set_option maxHeartbeats 3200000 in
theorem rslStart_any (S : St w0 w (cellsT g 108 (rslotC pr fr sz) :: rdT pr r :: tl)) (hf : fr + 2 * sz ≤ r.b.length) (hps : r.ps.length ≤ 10000000) (hs : r.syncs < 100000000) (hbl : r.bytes.length = r.b.length) (a : Option Addr) (l : List UInt8) (n cap : Nat) (hn : l.length = n) (hm : n ≤ 65536) (hcap : n ≤ cap) (hA : Reads w0 tl a l) (age : Int) :
    Calls Try.prog 49 #[.pointer (some ⟨g, 0, none⟩), .slice a n cap, .int .i64 age] w fun e w' => e = .returned (.int .i64 (rslStart r fr sz l age).1) ∧ St w0 w' (cellsT g 108 (rslotC pr fr sz) :: rdT pr (rslStart r fr sz l age).2 :: tl) := by
  obtain ⟨hok, gr, vb, va, vv, rfl, -⟩ := (S.front 1 rfl).rdOpen
  have hbig := hok.big
  obtain ⟨R, hR⟩ : ∃ R, rslStart r fr sz l age = R := ⟨_, rfl⟩
  rw [hR]
  unfold rslStart at hR
  obtain ⟨x, hx⟩ : ∃ x, pic (piece r.bytes (fr + 0 * sz) sz) = x := ⟨_, rfl⟩
  obtain ⟨y, hy⟩ : ∃ y, pic (piece r.bytes (fr + 1 * sz) sz) = y := ⟨_, rfl⟩
  rw [hx, hy] at hR
  have HX := hid hx
  have HY := hid hy
  have HBl := hid hbl
  obtain ⟨N, hN⟩ : ∃ N, r.b.length = N := ⟨_, rfl⟩
  have hf0 := hf
  rw [hN] at hbig hf0
  have HN := hid hn
  have HA := hid hA
  have HNN := hid hN
  have hgx := picI_ge x
  have hgy := picI_ge y
  obtain ⟨X, hX⟩ : ∃ X, picI x = X := ⟨_, rfl⟩
  obtain ⟨Y, hY⟩ : ∃ Y, picI y = Y := ⟨_, rfl⟩
  rw [hX, hY] at hR
  have HXI := hid hX
  have HYI := hid hY
  obtain ⟨F, hF⟩ : ∃ F, frameB (codeNum age ++ l) = F := ⟨_, rfl⟩
  have hFl := frameB_le20 (codeNum age ++ l)
  rw [hF] at hR hFl
  have HF := hid hF
  obtain ⟨f, hf1⟩ : ∃ f, F.length = f := ⟨_, rfl⟩
  rw [hf1] at hR hFl
  have HFl := hid hf1
  have HR := hid hR
  rw [hX] at hgx
  rw [hY] at hgy
  clear hR hx hy hbl hn hA hN hX hY hF hf1 hok
  by_cases hi : isNum age = false
  · have HR2 : Hid ((1, r) = R) := by rw [Hid, ← HR.out, if_pos hi]
    have HI := hid hi
    clear hi
    go_enter Try.func49, Try.ntmps49
    go_wp2_with fail
    refine (ris1_any age w).mono ?_
    rintro e w1 ⟨rfl, rfl⟩
    rw [HI.out]
    go_wp2
    go_ret
    rw [← HR2.out]
    exact ⟨rfl, S⟩
  have hi' : isNum age = true := by simpa using hi
  have HI := hid hi'
  have hP0 := rPicture_any S 0 (by omega) hf hps HBl.out
  rw [HX.out] at hP0
  have P0 := hid hP0
  have HR' : Hid ((if age ≤ X ∨ age ≤ Y then (6, r) else if f = 0 ∨ sz < f then (3, r) else (0, ((r.write ((fr + (if Y ≤ X ∧ 0 ≤ X then sz else 0) : Nat) : Int) (List.replicate sz 0)).sync).write ((fr + (if Y ≤ X ∧ 0 ≤ X then sz else 0) : Nat) : Int) F)) = R) := by rw [Hid, ← HR.out, if_neg hi]
  clear hP0 hi hi' HR
  go_enter Try.func49, Try.ntmps49
  go_wp2_with fail
  refine (ris1_any age w).mono ?_
  rintro e w1 ⟨rfl, rfl⟩
  rw [HI.out]
  go_wp2_with fail
  refine P0.out.mono ?_
  rintro e w1 ⟨a1, c1, rfl, -, -, -, S1⟩
  rw [HXI.out]
  have S1t := S1.tail
  have hP1 := rPicture_any S1t 1 (by omega) hf hps HBl.out
  rw [HY.out] at hP1
  have P1 := hid hP1
  clear S1 hP1 P0
  go_wp2_with fail
  refine P1.out.mono ?_
  rintro e w2 ⟨a2, c2, rfl, -, -, -, S2⟩
  rw [HYI.out]
  have S2t := S2.tail
  clear S2 P1
  by_cases h6 : age ≤ X
  · have g1 : decide (age ≤ X) = true := decide_eq_true h6
    have HR2 : Hid ((6, r) = R) := by rw [Hid, ← HR'.out, if_pos (.inl h6)]
    clear h6
    go_wp2
    go_ret
    rw [← HR2.out]
    exact ⟨rfl, S2t⟩
  have g1 : decide (age ≤ X) = false := decide_eq_false h6
  by_cases h7 : age ≤ Y
  · have g2 : decide (age ≤ Y) = true := decide_eq_true h7
    have HR2 : Hid ((6, r) = R) := by rw [Hid, ← HR'.out, if_pos (.inr h7)]
    clear h6 h7
    go_wp2
    go_ret
    rw [← HR2.out]
    exact ⟨rfl, S2t⟩
  have g2 : decide (age ≤ Y) = false := decide_eq_false h7
  have HR3 : Hid ((if f = 0 ∨ sz < f then (3, r) else (0, ((r.write ((fr + (if Y ≤ X ∧ 0 ≤ X then sz else 0) : Nat) : Int) (List.replicate sz 0)).sync).write ((fr + (if Y ≤ X ∧ 0 ≤ X then sz else 0) : Nat) : Int) F)) = R) := by rw [Hid, ← HR'.out, if_neg (show ¬ (age ≤ X ∨ age ≤ Y) by omega)]
  clear h6 h7 HR'
  have hcl := codeNum_len age
  obtain ⟨nn, hnn⟩ : ∃ nn, (codeNum age).length = nn := ⟨_, rfl⟩
  rw [hnn] at hcl
  have HNn := hid hnn
  have hnn2 : Hid ((codeNum age).length + n = nn + n) := by rw [Hid, hnn]
  clear hnn
  go_wp2_with fail
  refine (rnum_any age w2).mono ?_
  rintro e w3 ⟨v3, rfl, ho3, hb3⟩
  obtain ⟨a3, c3, rfl⟩ := ho3.written HNn.out
  have S3 := (S2t.bytes ho3 hb3).rot
  clear ho3 hb3
  go_wp2_with (at_builtin; refine wpList_app (by rfl) (.tmp 35) (.tmp 36) 27 27 27 rfl rfl _ _ rfl rfl (S3.app 0 rfl a l n cap HN.out (by exact HA.out _ [_, _, _] S3) (nn + n) hnn2.out (by omega)) ?_; rintro v4 w4 ⟨⟨a4, c4, rfl⟩, S4⟩)
  have S4' : St w0 w4 (bytesT (.slice a4 (nn + n) c4) (codeNum age ++ l) :: cellsT g 108 (rslotC (.pointer (some ⟨gr, 0, none⟩)) fr sz) :: rdT (.pointer (some ⟨gr, 0, none⟩)) r :: tl) := S4
  have hs4 := S4'.slA 0 rfl
  refine (rfrPut_any a4 (codeNum age ++ l) (nn + n) c4 w4 hs4.1 (by omega) (by exact hs4.2.2.2.2)).mono ?_
  rintro e w6 ⟨a6, c6, rfl, ho6, hb6⟩
  rw [HF.out, HFl.out] at ho6 ⊢
  have S6 : St w0 w6 (cellsT g 108 (rslotC (.pointer (some ⟨gr, 0, none⟩)) fr sz) :: rdT (.pointer (some ⟨gr, 0, none⟩)) r :: bytesT (.slice a6 f c6) F :: tl) := ((S4'.tail.bytes ho6 hb6).rot.front 2 rfl).front 2 rfl
  clear ho6 hb6 S3 S4 S4' hs4
  have z6 := S6.cell 0 rfl 2 rfl
  by_cases hf0' : f = 0
  · have g3 : ((f : Int) == 0) = true := by rw [hf0']; rfl
    have HR2 : Hid ((3, r) = R) := by rw [Hid, ← HR3.out, if_pos (.inl hf0')]
    clear hf0'
    go_wp2
    go_ret
    rw [← HR2.out]
    exact ⟨rfl, S6.take2⟩
  have g3 : ((f : Int) == 0) = false := by simpa using hf0'
  by_cases hf1' : sz < f
  · have g4 : decide ((sz : Int) < (f : Int)) = true := decide_eq_true (by omega)
    have g4n : decide (sz < f) = true := decide_eq_true hf1'
    have HR2 : Hid ((3, r) = R) := by rw [Hid, ← HR3.out, if_pos (.inr hf1')]
    clear hf0' hf1'
    go_wp2
    go_ret
    rw [← HR2.out]
    exact ⟨rfl, S6.take2⟩
  have g4 : decide ((sz : Int) < (f : Int)) = false := decide_eq_false (by omega)
  have g4n : decide (sz < f) = false := decide_eq_false hf1'
  have hR5 := HR3.out
  rw [if_neg (show ¬ (f = 0 ∨ sz < f) by omega)] at hR5
  by_cases hj : Y ≤ X
  · have g5 : decide (Y ≤ X) = true := decide_eq_true hj
    by_cases hj2 : 0 ≤ X
    · have g6 : decide (0 ≤ X) = true := decide_eq_true hj2
      obtain ⟨st, hst⟩ : ∃ st : Nat, sz = st := ⟨_, rfl⟩
      have HR4 : Hid ((0, ((r.write ((fr + st : Nat) : Int) (List.replicate sz 0)).sync).write ((fr + st : Nat) : Int) F) = R) := by rw [Hid, ← hR5, if_pos ⟨hj, hj2⟩, hst]
      have HP0 : Hid ((fr : Int) + (sz : Int) = ((fr + st : Nat) : Int)) := by rw [Hid, hst]; omega
      have hst2 : st ≤ sz := by omega
      clear hR5 HR3 hj hj2 hst
      obtain ⟨p0, hp0⟩ : ∃ p0, fr + st = p0 := ⟨_, rfl⟩
      have hpb : p0 + sz ≤ N := by omega
      rw [hp0] at HR4 HP0
      clear hp0
      have t9 : IntKind.i64.wrap ((fr : Int) + (sz : Int)) = ((fr + sz : Nat) : Int) := by rw [IntKind.wrap_i64]; omega
      have HC : Hid (∀ w', St w0 w' (cellsT g 108 (rslotC (.pointer (some ⟨gr, 0, none⟩)) fr sz) :: rdT (.pointer (some ⟨gr, 0, none⟩)) r :: bytesT (.slice a6 f c6) F :: tl) → w'.cell? ⟨g, 0, none⟩ = some (.pointer (some ⟨gr, 0, none⟩)) ∧ w'.cell? ⟨g, 2, none⟩ = some (.int .i64 (sz : Int))) := fun w' S' => ⟨S'.cell 0 rfl 0 rfl, S'.cell 0 rfl 2 rfl⟩
      have y6 := S6.cell 0 rfl 1 rfl
      have hwl := RD.write_len2 r (p0 : Int) (List.replicate sz 0)
      rw [List.length_replicate] at hwl
      have hlz : (List.replicate sz (0 : UInt8)).length = sz := List.length_replicate
      obtain ⟨e1, he1⟩ : ∃ e1 : Int, (if (p0 : Int) < 0 then 1 else if (r.b.length : Int) < (p0 : Int) + (sz : Nat) then 3 else 0) = e1 := ⟨_, rfl⟩
      obtain ⟨r1, hr1⟩ : ∃ r1, (r.write (p0 : Int) (List.replicate sz 0)) = r1 := ⟨_, rfl⟩
      obtain ⟨e2, he2⟩ : ∃ e2 : Int, (if (p0 : Int) < 0 then 1 else if (r1.sync.b.length : Int) < (p0 : Int) + (f : Nat) then 3 else 0) = e2 := ⟨_, rfl⟩
      rw [hr1] at HR4 hwl
      have HE1 := hid he1
      have HE2 := hid he2
      have HR1 := hid hr1
      have HLZ := hid hlz
      have hsy : r1.sync.ps.length ≤ 100000000 := by show ([] : List (Nat × UInt8)).length ≤ _; simp
      clear he1 he2 hr1 hlz
      go_wp2_with fail
      refine wp_region_held_drew (S := (fun w' => w'.cell? ⟨g, 0, none⟩ = some (.pointer (some ⟨gr, 0, none⟩)) ∧ w'.cell? ⟨g, 2, none⟩ = some (.int .i64 (sz : Int)))) (by kernel_rfl) (by exact HC.out _ S6.drew) (fun hHeld => ?_)
      change wpAnyH _ _ _ _ _ 11 (Array.replicate 11 false) _ _
      refine wpAnyH_take (i := 0) (v := ?v1) (ops_at rfl) (by kernel_rfl) (by kernel_rfl) (by kernel_rfl) (fun _ _ _ h => h) (Or.inl ⟨by rfl, ?hy1⟩) (by assumption) ?rest1
      case hy1 => intro w' hSw; (try dsimp only at hSw); go_simp; try with_reducible rfl
      try simp only [Act.put, List.setIfInBounds_toArray, List.set_cons_zero, List.set_cons_succ]
      refine wpAnyH_take (i := 1) (v := ?v2) (ops_at rfl) (by kernel_rfl) (by kernel_rfl) (by kernel_rfl) (fun _ _ _ h => h) (Or.inl ⟨by rfl, ?hy2⟩) (by assumption) ?rest2
      case hy2 => intro w' hSw; (try dsimp only at hSw); go_simp; try with_reducible rfl
      try simp only [Act.put, List.setIfInBounds_toArray, List.set_cons_zero, List.set_cons_succ]
      refine wpAnyH_take (i := 2) (v := ?v3) (ops_at rfl) (by kernel_rfl) (by kernel_rfl) (by kernel_rfl) (fun _ _ _ h => h) (Or.inl ⟨by rfl, ?hy3⟩) (by assumption) ?rest3
      case hy3 => intro w' hSw; (try dsimp only at hSw); go_simp; try with_reducible rfl
      try simp only [Act.put, List.setIfInBounds_toArray, List.set_cons_zero, List.set_cons_succ]
      refine wpAnyH_take (i := 3) (v := ?v4) (ops_at rfl) (by kernel_rfl) (by kernel_rfl) (by kernel_rfl) (fun _ _ _ h => h) (Or.inl ⟨by rfl, ?hy4⟩) (by assumption) ?rest4
      case hy4 => intro w' hSw; (try dsimp only at hSw); go_simp; try with_reducible rfl
      try simp only [Act.put, List.setIfInBounds_toArray, List.set_cons_zero, List.set_cons_succ]
      refine wpAnyH_take (i := 4) (v := ?v5) (ops_at rfl) (by kernel_rfl) (by kernel_rfl) (by kernel_rfl) (fun _ _ _ h => h) (Or.inl ⟨by rfl, ?hy5⟩) (by assumption) ?rest5
      case hy5 => intro w' hSw; (try dsimp only at hSw); go_simp; try with_reducible rfl
      try simp only [Act.put, List.setIfInBounds_toArray, List.set_cons_zero, List.set_cons_succ]
      refine wpAnyH_take (i := 5) (v := ?v6) (ops_at rfl) (by kernel_rfl) (by kernel_rfl) (by kernel_rfl) (fun _ _ _ h => h) (Or.inl ⟨by rfl, ?hy6⟩) (by assumption) ?rest6
      case hy6 => intro w' hSw; (try dsimp only at hSw); go_simp; try with_reducible rfl
      try simp only [Act.put, List.setIfInBounds_toArray, List.set_cons_zero, List.set_cons_succ]
      refine wpAnyH_take (i := 6) (v := ?v7) (ops_at rfl) (by kernel_rfl) (by kernel_rfl) (by kernel_rfl) (fun _ _ _ h => h) (Or.inl ⟨by rfl, ?hy7⟩) (by assumption) ?rest7
      case hy7 => intro w' hSw; (try dsimp only at hSw); go_simp; try with_reducible rfl
      try simp only [Act.put, List.setIfInBounds_toArray, List.set_cons_zero, List.set_cons_succ]
      refine wpAnyH_take (i := 7) (v := ?v8) (ops_at rfl) (by kernel_rfl) (by kernel_rfl) (by kernel_rfl) (fun _ _ _ h => h) (Or.inl ⟨by rfl, ?hy8⟩) (by assumption) ?rest8
      case hy8 => intro w' hSw; (try dsimp only at hSw); go_simp; try with_reducible rfl
      try simp only [Act.put, List.setIfInBounds_toArray, List.set_cons_zero, List.set_cons_succ]
      refine wpAnyH_take (i := 8) (v := ?v9) (ops_at rfl) (by kernel_rfl) (by kernel_rfl) (by kernel_rfl) (fun _ _ _ h => h) (Or.inl ⟨by rfl, ?hy9⟩) (by assumption) ?rest9
      case hy9 => intro w' hSw; (try dsimp only at hSw); go_simp; try with_reducible rfl
      try simp only [Act.put, List.setIfInBounds_toArray, List.set_cons_zero, List.set_cons_succ]
      refine wpAnyH_ready (rs := [9]) (by kernel_rfl) (by simp) ?_
      refine AllReadyH.cons (ops_at rfl) (fun K hK => ?_) AllReadyH.nil
      refine step_make2 (by rfl) (.tmp 76) (.tmp 76) 27 rfl _ _ rfl rfl (run_make _ sz (by omega)) ?_
      rintro v9 w9 ⟨rfl, ho9, hb9⟩
      have S9 := (S6.drew.bytes ho9 hb9).rot
      clear ho9 hb9
      refine hK.out _ _ (by exact HC.out _ S9.tail) (fun hHeld => ?_)
      clear hK K
      try simp only [Act.put, List.setIfInBounds_toArray, List.set_cons_zero, List.set_cons_succ]
      refine wpAnyH_ready (rs := [10]) (by kernel_rfl) (by simp) ?_
      refine AllReadyH.cons (ops_at rfl) (fun K hK => ?_) AllReadyH.nil
      go_simp
      have hW := rdwrite_any (by exact S9.front 2 rfl) (p0 : Int) _ (List.replicate sz 0) sz sz e1 HE1.out HLZ.out (by omega) (by omega) (by exact Reads.at 0 rfl)
      rw [HR1.out] at hW
      rw [HP0.out]
      refine hW.mono ?_
      rintro e w10 ⟨rfl, S10⟩
      clear hW
      have S10t : St w0 w10 (cellsT g 108 (rslotC (.pointer (some ⟨gr, 0, none⟩)) fr sz) :: rdT (.pointer (some ⟨gr, 0, none⟩)) r1 :: bytesT (.slice a6 f c6) F :: tl) := (S10.swap.tail : St w0 w10 (_ :: _ :: _)).swap
      refine hK.out _ _ (by exact ⟨S10t.cell 0 rfl 0 rfl, S10t.cell 0 rfl 2 rfl⟩) (fun hHeld => ?_)
      clear hK K
      try simp only [Act.put, List.setIfInBounds_toArray, List.set_cons_zero, List.set_cons_succ]
      refine wpAnyH_done (by kernel_rfl) ?_ _
      have x10 := S10t.cell 0 rfl 0 rfl
      go_wp2_with fail
      refine (rdsync_any (by exact S10t.swap) (by omega) (by omega)).mono ?_
      rintro e w11 ⟨rfl, S11⟩
      have S11t := S11.swap
      have x11 := S11t.cell 0 rfl 0 rfl
      go_wp2_with fail
      (try rw [HP0.out])
      refine (rdwrite_any (by exact S11) (p0 : Int) a6 F f c6 e2 HE2.out HFl.out (by omega) hsy (by exact Reads.at 1 rfl)).mono ?_
      rintro e w12 ⟨rfl, S12⟩
      go_wp2
      go_ret
      rw [← HR4.out]
      exact ⟨rfl, (S12.swap : St w0 w12 (_ :: _ :: _ :: tl)).take2⟩
    · have g6 : decide (0 ≤ X) = false := decide_eq_false hj2
      obtain ⟨st, hst⟩ : ∃ st : Nat, 0 = st := ⟨_, rfl⟩
      have HR4 : Hid ((0, ((r.write ((fr + st : Nat) : Int) (List.replicate sz 0)).sync).write ((fr + st : Nat) : Int) F) = R) := by rw [Hid, ← hR5, if_neg (show ¬ (Y ≤ X ∧ 0 ≤ X) by omega), hst]
      have HP0 : Hid ((fr : Int) = ((fr + st : Nat) : Int)) := by rw [Hid, ← hst]; omega
      have hst2 : st ≤ sz := by omega
      clear hR5 HR3 hj hj2 hst
      obtain ⟨p0, hp0⟩ : ∃ p0, fr + st = p0 := ⟨_, rfl⟩
      have hpb : p0 + sz ≤ N := by omega
      rw [hp0] at HR4 HP0
      clear hp0
      have t9 : IntKind.i64.wrap ((fr : Int) + (sz : Int)) = ((fr + sz : Nat) : Int) := by rw [IntKind.wrap_i64]; omega
      have HC : Hid (∀ w', St w0 w' (cellsT g 108 (rslotC (.pointer (some ⟨gr, 0, none⟩)) fr sz) :: rdT (.pointer (some ⟨gr, 0, none⟩)) r :: bytesT (.slice a6 f c6) F :: tl) → w'.cell? ⟨g, 0, none⟩ = some (.pointer (some ⟨gr, 0, none⟩)) ∧ w'.cell? ⟨g, 2, none⟩ = some (.int .i64 (sz : Int))) := fun w' S' => ⟨S'.cell 0 rfl 0 rfl, S'.cell 0 rfl 2 rfl⟩
      have y6 := S6.cell 0 rfl 1 rfl
      have hwl := RD.write_len2 r (p0 : Int) (List.replicate sz 0)
      rw [List.length_replicate] at hwl
      have hlz : (List.replicate sz (0 : UInt8)).length = sz := List.length_replicate
      obtain ⟨e1, he1⟩ : ∃ e1 : Int, (if (p0 : Int) < 0 then 1 else if (r.b.length : Int) < (p0 : Int) + (sz : Nat) then 3 else 0) = e1 := ⟨_, rfl⟩
      obtain ⟨r1, hr1⟩ : ∃ r1, (r.write (p0 : Int) (List.replicate sz 0)) = r1 := ⟨_, rfl⟩
      obtain ⟨e2, he2⟩ : ∃ e2 : Int, (if (p0 : Int) < 0 then 1 else if (r1.sync.b.length : Int) < (p0 : Int) + (f : Nat) then 3 else 0) = e2 := ⟨_, rfl⟩
      rw [hr1] at HR4 hwl
      have HE1 := hid he1
      have HE2 := hid he2
      have HR1 := hid hr1
      have HLZ := hid hlz
      have hsy : r1.sync.ps.length ≤ 100000000 := by show ([] : List (Nat × UInt8)).length ≤ _; simp
      clear he1 he2 hr1 hlz
      go_wp2_with fail
      refine wp_region_held_drew (S := (fun w' => w'.cell? ⟨g, 0, none⟩ = some (.pointer (some ⟨gr, 0, none⟩)) ∧ w'.cell? ⟨g, 2, none⟩ = some (.int .i64 (sz : Int)))) (by kernel_rfl) (by exact HC.out _ S6.drew) (fun hHeld => ?_)
      change wpAnyH _ _ _ _ _ 11 (Array.replicate 11 false) _ _
      refine wpAnyH_take (i := 0) (v := ?v12) (ops_at rfl) (by kernel_rfl) (by kernel_rfl) (by kernel_rfl) (fun _ _ _ h => h) (Or.inl ⟨by rfl, ?hy12⟩) (by assumption) ?rest12
      case hy12 => intro w' hSw; (try dsimp only at hSw); go_simp; try with_reducible rfl
      try simp only [Act.put, List.setIfInBounds_toArray, List.set_cons_zero, List.set_cons_succ]
      refine wpAnyH_take (i := 1) (v := ?v13) (ops_at rfl) (by kernel_rfl) (by kernel_rfl) (by kernel_rfl) (fun _ _ _ h => h) (Or.inl ⟨by rfl, ?hy13⟩) (by assumption) ?rest13
      case hy13 => intro w' hSw; (try dsimp only at hSw); go_simp; try with_reducible rfl
      try simp only [Act.put, List.setIfInBounds_toArray, List.set_cons_zero, List.set_cons_succ]
      refine wpAnyH_take (i := 2) (v := ?v14) (ops_at rfl) (by kernel_rfl) (by kernel_rfl) (by kernel_rfl) (fun _ _ _ h => h) (Or.inl ⟨by rfl, ?hy14⟩) (by assumption) ?rest14
      case hy14 => intro w' hSw; (try dsimp only at hSw); go_simp; try with_reducible rfl
      try simp only [Act.put, List.setIfInBounds_toArray, List.set_cons_zero, List.set_cons_succ]
      refine wpAnyH_take (i := 3) (v := ?v15) (ops_at rfl) (by kernel_rfl) (by kernel_rfl) (by kernel_rfl) (fun _ _ _ h => h) (Or.inl ⟨by rfl, ?hy15⟩) (by assumption) ?rest15
      case hy15 => intro w' hSw; (try dsimp only at hSw); go_simp; try with_reducible rfl
      try simp only [Act.put, List.setIfInBounds_toArray, List.set_cons_zero, List.set_cons_succ]
      refine wpAnyH_take (i := 4) (v := ?v16) (ops_at rfl) (by kernel_rfl) (by kernel_rfl) (by kernel_rfl) (fun _ _ _ h => h) (Or.inl ⟨by rfl, ?hy16⟩) (by assumption) ?rest16
      case hy16 => intro w' hSw; (try dsimp only at hSw); go_simp; try with_reducible rfl
      try simp only [Act.put, List.setIfInBounds_toArray, List.set_cons_zero, List.set_cons_succ]
      refine wpAnyH_take (i := 5) (v := ?v17) (ops_at rfl) (by kernel_rfl) (by kernel_rfl) (by kernel_rfl) (fun _ _ _ h => h) (Or.inl ⟨by rfl, ?hy17⟩) (by assumption) ?rest17
      case hy17 => intro w' hSw; (try dsimp only at hSw); go_simp; try with_reducible rfl
      try simp only [Act.put, List.setIfInBounds_toArray, List.set_cons_zero, List.set_cons_succ]
      refine wpAnyH_take (i := 6) (v := ?v18) (ops_at rfl) (by kernel_rfl) (by kernel_rfl) (by kernel_rfl) (fun _ _ _ h => h) (Or.inl ⟨by rfl, ?hy18⟩) (by assumption) ?rest18
      case hy18 => intro w' hSw; (try dsimp only at hSw); go_simp; try with_reducible rfl
      try simp only [Act.put, List.setIfInBounds_toArray, List.set_cons_zero, List.set_cons_succ]
      refine wpAnyH_take (i := 7) (v := ?v19) (ops_at rfl) (by kernel_rfl) (by kernel_rfl) (by kernel_rfl) (fun _ _ _ h => h) (Or.inl ⟨by rfl, ?hy19⟩) (by assumption) ?rest19
      case hy19 => intro w' hSw; (try dsimp only at hSw); go_simp; try with_reducible rfl
      try simp only [Act.put, List.setIfInBounds_toArray, List.set_cons_zero, List.set_cons_succ]
      refine wpAnyH_take (i := 8) (v := ?v20) (ops_at rfl) (by kernel_rfl) (by kernel_rfl) (by kernel_rfl) (fun _ _ _ h => h) (Or.inl ⟨by rfl, ?hy20⟩) (by assumption) ?rest20
      case hy20 => intro w' hSw; (try dsimp only at hSw); go_simp; try with_reducible rfl
      try simp only [Act.put, List.setIfInBounds_toArray, List.set_cons_zero, List.set_cons_succ]
      refine wpAnyH_ready (rs := [9]) (by kernel_rfl) (by simp) ?_
      refine AllReadyH.cons (ops_at rfl) (fun K hK => ?_) AllReadyH.nil
      refine step_make2 (by rfl) (.tmp 76) (.tmp 76) 27 rfl _ _ rfl rfl (run_make _ sz (by omega)) ?_
      rintro v9 w9 ⟨rfl, ho9, hb9⟩
      have S9 := (S6.drew.bytes ho9 hb9).rot
      clear ho9 hb9
      refine hK.out _ _ (by exact HC.out _ S9.tail) (fun hHeld => ?_)
      clear hK K
      try simp only [Act.put, List.setIfInBounds_toArray, List.set_cons_zero, List.set_cons_succ]
      refine wpAnyH_ready (rs := [10]) (by kernel_rfl) (by simp) ?_
      refine AllReadyH.cons (ops_at rfl) (fun K hK => ?_) AllReadyH.nil
      go_simp
      have hW := rdwrite_any (by exact S9.front 2 rfl) (p0 : Int) _ (List.replicate sz 0) sz sz e1 HE1.out HLZ.out (by omega) (by omega) (by exact Reads.at 0 rfl)
      rw [HR1.out] at hW
      rw [HP0.out]
      refine hW.mono ?_
      rintro e w10 ⟨rfl, S10⟩
      clear hW
      have S10t : St w0 w10 (cellsT g 108 (rslotC (.pointer (some ⟨gr, 0, none⟩)) fr sz) :: rdT (.pointer (some ⟨gr, 0, none⟩)) r1 :: bytesT (.slice a6 f c6) F :: tl) := (S10.swap.tail : St w0 w10 (_ :: _ :: _)).swap
      refine hK.out _ _ (by exact ⟨S10t.cell 0 rfl 0 rfl, S10t.cell 0 rfl 2 rfl⟩) (fun hHeld => ?_)
      clear hK K
      try simp only [Act.put, List.setIfInBounds_toArray, List.set_cons_zero, List.set_cons_succ]
      refine wpAnyH_done (by kernel_rfl) ?_ _
      have x10 := S10t.cell 0 rfl 0 rfl
      go_wp2_with fail
      refine (rdsync_any (by exact S10t.swap) (by omega) (by omega)).mono ?_
      rintro e w11 ⟨rfl, S11⟩
      have S11t := S11.swap
      have x11 := S11t.cell 0 rfl 0 rfl
      go_wp2_with fail
      (try rw [HP0.out])
      refine (rdwrite_any (by exact S11) (p0 : Int) a6 F f c6 e2 HE2.out HFl.out (by omega) hsy (by exact Reads.at 1 rfl)).mono ?_
      rintro e w12 ⟨rfl, S12⟩
      go_wp2
      go_ret
      rw [← HR4.out]
      exact ⟨rfl, (S12.swap : St w0 w12 (_ :: _ :: _ :: tl)).take2⟩
  · have g5 : decide (Y ≤ X) = false := decide_eq_false hj
    obtain ⟨st, hst⟩ : ∃ st : Nat, 0 = st := ⟨_, rfl⟩
    have HR4 : Hid ((0, ((r.write ((fr + st : Nat) : Int) (List.replicate sz 0)).sync).write ((fr + st : Nat) : Int) F) = R) := by rw [Hid, ← hR5, if_neg (show ¬ (Y ≤ X ∧ 0 ≤ X) by omega), hst]
    have HP0 : Hid ((fr : Int) = ((fr + st : Nat) : Int)) := by rw [Hid, ← hst]; omega
    have hst2 : st ≤ sz := by omega
    clear hR5 HR3 hj hst
    obtain ⟨p0, hp0⟩ : ∃ p0, fr + st = p0 := ⟨_, rfl⟩
    have hpb : p0 + sz ≤ N := by omega
    rw [hp0] at HR4 HP0
    clear hp0
    have t9 : IntKind.i64.wrap ((fr : Int) + (sz : Int)) = ((fr + sz : Nat) : Int) := by rw [IntKind.wrap_i64]; omega
    have HC : Hid (∀ w', St w0 w' (cellsT g 108 (rslotC (.pointer (some ⟨gr, 0, none⟩)) fr sz) :: rdT (.pointer (some ⟨gr, 0, none⟩)) r :: bytesT (.slice a6 f c6) F :: tl) → w'.cell? ⟨g, 0, none⟩ = some (.pointer (some ⟨gr, 0, none⟩)) ∧ w'.cell? ⟨g, 2, none⟩ = some (.int .i64 (sz : Int))) := fun w' S' => ⟨S'.cell 0 rfl 0 rfl, S'.cell 0 rfl 2 rfl⟩
    have y6 := S6.cell 0 rfl 1 rfl
    have hwl := RD.write_len2 r (p0 : Int) (List.replicate sz 0)
    rw [List.length_replicate] at hwl
    have hlz : (List.replicate sz (0 : UInt8)).length = sz := List.length_replicate
    obtain ⟨e1, he1⟩ : ∃ e1 : Int, (if (p0 : Int) < 0 then 1 else if (r.b.length : Int) < (p0 : Int) + (sz : Nat) then 3 else 0) = e1 := ⟨_, rfl⟩
    obtain ⟨r1, hr1⟩ : ∃ r1, (r.write (p0 : Int) (List.replicate sz 0)) = r1 := ⟨_, rfl⟩
    obtain ⟨e2, he2⟩ : ∃ e2 : Int, (if (p0 : Int) < 0 then 1 else if (r1.sync.b.length : Int) < (p0 : Int) + (f : Nat) then 3 else 0) = e2 := ⟨_, rfl⟩
    rw [hr1] at HR4 hwl
    have HE1 := hid he1
    have HE2 := hid he2
    have HR1 := hid hr1
    have HLZ := hid hlz
    have hsy : r1.sync.ps.length ≤ 100000000 := by show ([] : List (Nat × UInt8)).length ≤ _; simp
    clear he1 he2 hr1 hlz
    go_wp2_with fail
    refine wp_region_held_drew (S := (fun w' => w'.cell? ⟨g, 0, none⟩ = some (.pointer (some ⟨gr, 0, none⟩)) ∧ w'.cell? ⟨g, 2, none⟩ = some (.int .i64 (sz : Int)))) (by kernel_rfl) (by exact HC.out _ S6.drew) (fun hHeld => ?_)
    change wpAnyH _ _ _ _ _ 11 (Array.replicate 11 false) _ _
    refine wpAnyH_take (i := 0) (v := ?v23) (ops_at rfl) (by kernel_rfl) (by kernel_rfl) (by kernel_rfl) (fun _ _ _ h => h) (Or.inl ⟨by rfl, ?hy23⟩) (by assumption) ?rest23
    case hy23 => intro w' hSw; (try dsimp only at hSw); go_simp; try with_reducible rfl
    try simp only [Act.put, List.setIfInBounds_toArray, List.set_cons_zero, List.set_cons_succ]
    refine wpAnyH_take (i := 1) (v := ?v24) (ops_at rfl) (by kernel_rfl) (by kernel_rfl) (by kernel_rfl) (fun _ _ _ h => h) (Or.inl ⟨by rfl, ?hy24⟩) (by assumption) ?rest24
    case hy24 => intro w' hSw; (try dsimp only at hSw); go_simp; try with_reducible rfl
    try simp only [Act.put, List.setIfInBounds_toArray, List.set_cons_zero, List.set_cons_succ]
    refine wpAnyH_take (i := 2) (v := ?v25) (ops_at rfl) (by kernel_rfl) (by kernel_rfl) (by kernel_rfl) (fun _ _ _ h => h) (Or.inl ⟨by rfl, ?hy25⟩) (by assumption) ?rest25
    case hy25 => intro w' hSw; (try dsimp only at hSw); go_simp; try with_reducible rfl
    try simp only [Act.put, List.setIfInBounds_toArray, List.set_cons_zero, List.set_cons_succ]
    refine wpAnyH_take (i := 3) (v := ?v26) (ops_at rfl) (by kernel_rfl) (by kernel_rfl) (by kernel_rfl) (fun _ _ _ h => h) (Or.inl ⟨by rfl, ?hy26⟩) (by assumption) ?rest26
    case hy26 => intro w' hSw; (try dsimp only at hSw); go_simp; try with_reducible rfl
    try simp only [Act.put, List.setIfInBounds_toArray, List.set_cons_zero, List.set_cons_succ]
    refine wpAnyH_take (i := 4) (v := ?v27) (ops_at rfl) (by kernel_rfl) (by kernel_rfl) (by kernel_rfl) (fun _ _ _ h => h) (Or.inl ⟨by rfl, ?hy27⟩) (by assumption) ?rest27
    case hy27 => intro w' hSw; (try dsimp only at hSw); go_simp; try with_reducible rfl
    try simp only [Act.put, List.setIfInBounds_toArray, List.set_cons_zero, List.set_cons_succ]
    refine wpAnyH_take (i := 5) (v := ?v28) (ops_at rfl) (by kernel_rfl) (by kernel_rfl) (by kernel_rfl) (fun _ _ _ h => h) (Or.inl ⟨by rfl, ?hy28⟩) (by assumption) ?rest28
    case hy28 => intro w' hSw; (try dsimp only at hSw); go_simp; try with_reducible rfl
    try simp only [Act.put, List.setIfInBounds_toArray, List.set_cons_zero, List.set_cons_succ]
    refine wpAnyH_take (i := 6) (v := ?v29) (ops_at rfl) (by kernel_rfl) (by kernel_rfl) (by kernel_rfl) (fun _ _ _ h => h) (Or.inl ⟨by rfl, ?hy29⟩) (by assumption) ?rest29
    case hy29 => intro w' hSw; (try dsimp only at hSw); go_simp; try with_reducible rfl
    try simp only [Act.put, List.setIfInBounds_toArray, List.set_cons_zero, List.set_cons_succ]
    refine wpAnyH_take (i := 7) (v := ?v30) (ops_at rfl) (by kernel_rfl) (by kernel_rfl) (by kernel_rfl) (fun _ _ _ h => h) (Or.inl ⟨by rfl, ?hy30⟩) (by assumption) ?rest30
    case hy30 => intro w' hSw; (try dsimp only at hSw); go_simp; try with_reducible rfl
    try simp only [Act.put, List.setIfInBounds_toArray, List.set_cons_zero, List.set_cons_succ]
    refine wpAnyH_take (i := 8) (v := ?v31) (ops_at rfl) (by kernel_rfl) (by kernel_rfl) (by kernel_rfl) (fun _ _ _ h => h) (Or.inl ⟨by rfl, ?hy31⟩) (by assumption) ?rest31
    case hy31 => intro w' hSw; (try dsimp only at hSw); go_simp; try with_reducible rfl
    try simp only [Act.put, List.setIfInBounds_toArray, List.set_cons_zero, List.set_cons_succ]
    refine wpAnyH_ready (rs := [9]) (by kernel_rfl) (by simp) ?_
    refine AllReadyH.cons (ops_at rfl) (fun K hK => ?_) AllReadyH.nil
    refine step_make2 (by rfl) (.tmp 76) (.tmp 76) 27 rfl _ _ rfl rfl (run_make _ sz (by omega)) ?_
    rintro v9 w9 ⟨rfl, ho9, hb9⟩
    have S9 := (S6.drew.bytes ho9 hb9).rot
    clear ho9 hb9
    refine hK.out _ _ (by exact HC.out _ S9.tail) (fun hHeld => ?_)
    clear hK K
    try simp only [Act.put, List.setIfInBounds_toArray, List.set_cons_zero, List.set_cons_succ]
    refine wpAnyH_ready (rs := [10]) (by kernel_rfl) (by simp) ?_
    refine AllReadyH.cons (ops_at rfl) (fun K hK => ?_) AllReadyH.nil
    go_simp
    have hW := rdwrite_any (by exact S9.front 2 rfl) (p0 : Int) _ (List.replicate sz 0) sz sz e1 HE1.out HLZ.out (by omega) (by omega) (by exact Reads.at 0 rfl)
    rw [HR1.out] at hW
    rw [HP0.out]
    refine hW.mono ?_
    rintro e w10 ⟨rfl, S10⟩
    clear hW
    have S10t : St w0 w10 (cellsT g 108 (rslotC (.pointer (some ⟨gr, 0, none⟩)) fr sz) :: rdT (.pointer (some ⟨gr, 0, none⟩)) r1 :: bytesT (.slice a6 f c6) F :: tl) := (S10.swap.tail : St w0 w10 (_ :: _ :: _)).swap
    refine hK.out _ _ (by exact ⟨S10t.cell 0 rfl 0 rfl, S10t.cell 0 rfl 2 rfl⟩) (fun hHeld => ?_)
    clear hK K
    try simp only [Act.put, List.setIfInBounds_toArray, List.set_cons_zero, List.set_cons_succ]
    refine wpAnyH_done (by kernel_rfl) ?_ _
    have x10 := S10t.cell 0 rfl 0 rfl
    go_wp2_with fail
    refine (rdsync_any (by exact S10t.swap) (by omega) (by omega)).mono ?_
    rintro e w11 ⟨rfl, S11⟩
    have S11t := S11.swap
    have x11 := S11t.cell 0 rfl 0 rfl
    go_wp2_with fail
    (try rw [HP0.out])
    refine (rdwrite_any (by exact S11) (p0 : Int) a6 F f c6 e2 HE2.out HFl.out (by omega) hsy (by exact Reads.at 1 rfl)).mono ?_
    rintro e w12 ⟨rfl, S12⟩
    go_wp2
    go_ret
    rw [← HR4.out]
    exact ⟨rfl, (S12.swap : St w0 w12 (_ :: _ :: _ :: tl)).take2⟩
end

end Go.Proofs.Ytmfbbonppmhabaa
