/- Slots: Open, Start, Save. -/
import Derived.Test.YtmfbbonppmhabaaSlots
namespace Go.Proofs.Ytmfbbonppmhabaa
set_option linter.unusedVariables false
set_option linter.unusedSimpArgs false
open Go.RowKit

theorem step_make2 {ops : Array Oper} {o : Oper} {a : Act} {w : World} {K : Act → World → Prop} {Q : Exit → Act → World → Prop} {E : Prop} (hw : Region.wanted o (yielded ops a.tmps) = true) (s x : Operand) (t : TypeId)
    (ho : o.op = .makeSlice t s x) {R : Value → World → Prop} (v y : Value) (hs : a.eval s = v) (hx : a.eval x = y)
    (hr : ∃ v' w', (Instr.makeSlice t v y).run Try.prog w = .ok v' w' ∧ R v' w') (h : ∀ v' w', R v' w' → K (a.put o.dst v') w') : if Region.wanted o (yielded ops a.tmps) = true then Oper.wp Try.prog o a w K Q else E := by
  rw [if_pos hw]
  exact wp_make s x t ho v y hs hx hr h
theorem frameB_le20 (l : List UInt8) : (frameB l).length ≤ 4020 := by
  by_cases h1 : 1 ≤ l.length
  · by_cases h2 : l.length ≤ 4000
    · rw [frame_len h1 h2]
      have := codeNum_len (l.length : Int)
      omega
    · unfold frameB; rw [if_pos (by omega)]; simp
  · unfold frameB; rw [if_pos (by omega)]; simp
/-- Is there a picture that is as new? -/
def oldO (o : Option (List UInt8 × Nat)) (age : Int) : Bool := match o with | none => false | some p => decide (age ≤ (p.2 : Int))
/-- What Start answers, and what it leaves. -/
def slStart (d : DSt) (fr sz : Nat) (b : List UInt8) (age : Int) : Int × DSt :=
  if (codeNum age).length = 0 then (1, d)
  else if oldO (d.shows fr sz) age = true then (6, d)
  else if (frameB (codeNum age ++ b)).length = 0 ∨ sz < (frameB (codeNum age ++ b)).length then (3, d)
  else (0, ((d.write ((fr + (if newestI (pic (piece d.bytes (fr + 0 * sz) sz)) (pic (piece d.bytes (fr + 1 * sz) sz)) = 0 then 1 else 0) * sz : Nat) : Int) (List.replicate sz 0)).sync).write ((fr + (if newestI (pic (piece d.bytes (fr + 0 * sz) sz)) (pic (piece d.bytes (fr + 1 * sz) sz)) = 0 then 1 else 0) * sz : Nat) : Int) (frameB (codeNum age ++ b)))

section
variable {w0 w : World} {tl : List Thing} {pd : Value} {d : DSt} {g fr sz : Nat}
theorem St.take2 {x y z : Thing} (S : St w0 w (x :: y :: z :: tl)) : St w0 w (x :: y :: tl) := (S.front 2 rfl).tail
set_option maxRecDepth 10000 in
set_option maxHeartbeats 1600000 in
theorem slOpen_no (S : St w0 w (diskT pd d :: tl)) (fr sz : Int) (hsz0 : -9223372036854775808 ≤ sz) (hsz1 : sz ≤ 9223372036854775807) (h : fr < 0 ∨ sz < 1 ∨ (d.lasts.length : Int) < 2 * sz ∨ (d.lasts.length : Int) - 2 * sz < fr) :
    Calls Try.prog 30 #[pd, .int .i64 fr, .int .i64 sz] w fun e w' => e = .returned (.tuple #[.pointer none, .int .i64 1]) ∧ w = w' := by
  have hN := (S.disk 0 rfl).2.2.1
  obtain ⟨N, hNN⟩ : ∃ N, d.lasts.length = N := ⟨_, rfl⟩
  rw [hNN] at hN h
  have HN := hid (show (d.lasts.length : Int) = (N : Int) by rw [hNN])
  clear hNN
  by_cases q0 : fr < 0
  · go_enter Try.func30, Try.ntmps30
    go_wp2
    go_ret2
    exact ⟨rfl, rfl⟩
  have g0 : decide (fr < 0) = false := decide_eq_false q0
  by_cases q1 : sz < 1
  · have g1 : decide (sz < 1) = true := decide_eq_true q1
    go_enter Try.func30, Try.ntmps30
    go_wp2
    go_ret2
    exact ⟨rfl, rfl⟩
  have g1 : decide (sz < 1) = false := decide_eq_false q1
  have td : (N : Int).tdiv 2 = ((N / 2 : Nat) : Int) := by simp [Int.tdiv]
  by_cases q2 : (N : Int) < 2 * sz
  · have g2 : decide (((N / 2 : Nat) : Int) < sz) = true := decide_eq_true (by omega)
    go_enter Try.func30, Try.ntmps30
    go_wp2_with (refine (hsize S 0 rfl (N : Int) HN.out).mono ?_; rintro e w1 ⟨rfl, rfl⟩)
    go_ret2
    exact ⟨rfl, rfl⟩
  have g2 : decide (((N / 2 : Nat) : Int) < sz) = false := decide_eq_false (by omega)
  have g3 : decide ((N : Int) - 2 * sz < fr) = true := decide_eq_true (by omega)
  have t1 : IntKind.i64.wrap (2 * sz) = 2 * sz := by rw [IntKind.wrap_i64]; omega
  have t2 : IntKind.i64.wrap ((N : Int) - 2 * sz) = (N : Int) - 2 * sz := by rw [IntKind.wrap_i64]; omega
  go_enter Try.func30, Try.ntmps30
  go_wp2_with (refine (hsize S 0 rfl (N : Int) HN.out).mono ?_; rintro e w1 ⟨rfl, rfl⟩)
  go_ret2
  exact ⟨rfl, rfl⟩
set_option maxRecDepth 10000 in
set_option maxHeartbeats 1600000 in
theorem slOpen_yes (S : St w0 w (diskT pd d :: tl)) (fr sz : Nat) (h1 : 1 ≤ sz) (h2 : fr + 2 * sz ≤ d.lasts.length) :
    Calls Try.prog 30 #[pd, .int .i64 fr, .int .i64 sz] w fun e w' => ∃ g, e = .returned (.tuple #[.pointer (some ⟨g, 0, none⟩), .int .i64 0]) ∧ St w0 w' (cellsT g 97 (slotC pd fr sz) :: diskT pd d :: tl) := by
  have hptr : ∃ gd, pd = .pointer (some ⟨gd, 0, none⟩) := by
    obtain ⟨F, gd, gl, vw, ws, e, _⟩ := S.head 0 rfl
    exact ⟨gd, e⟩
  obtain ⟨gd, rfl⟩ := hptr
  have hN := (S.disk 0 rfl).2.2.1
  obtain ⟨N, hNN⟩ : ∃ N, d.lasts.length = N := ⟨_, rfl⟩
  rw [hNN] at hN h2
  have HN := hid (show (d.lasts.length : Int) = (N : Int) by rw [hNN])
  clear hNN
  have g0 : decide ((fr : Int) < 0) = false := decide_eq_false (by omega)
  have g1 : decide ((sz : Int) < 1) = false := decide_eq_false (by omega)
  have td : (N : Int).tdiv 2 = ((N / 2 : Nat) : Int) := by simp [Int.tdiv]
  have g2 : decide (((N / 2 : Nat) : Int) < (sz : Int)) = false := decide_eq_false (by omega)
  have g2n : decide (N / 2 < sz) = false := decide_eq_false (by omega)
  have g3 : decide ((N : Int) - 2 * (sz : Int) < (fr : Int)) = false := decide_eq_false (by omega)
  have t1 : IntKind.i64.wrap (2 * (sz : Int)) = 2 * (sz : Int) := by rw [IntKind.wrap_i64]; omega
  have t2 : IntKind.i64.wrap ((N : Int) - 2 * (sz : Int)) = (N : Int) - 2 * (sz : Int) := by rw [IntKind.wrap_i64]; omega
  have S1 := (S.newCells 97 #[.pointer (some ⟨gd, 0, none⟩), .int .i64 (fr : Int), .int .i64 (sz : Int)]).rot
  go_enter Try.func30, Try.ntmps30
  go_wp2_with (refine (hsize S 0 rfl (N : Int) HN.out).mono ?_; rintro e w1 ⟨rfl, rfl⟩)
  go_ret2
  exact ⟨_, rfl, S1⟩
theorem newest_three (x y : Option (List UInt8 × Nat)) : newestI x y = -1 ∨ newestI x y = 0 ∨ newestI x y = 1 := by
  rcases load_is x y with ⟨h, _⟩ | ⟨h, _⟩ | ⟨h, _⟩
  · exact .inl h
  · exact .inr (.inl h)
  · exact .inr (.inr h)
set_option maxRecDepth 10000 in
set_option maxHeartbeats 3200000 in
theorem slStart_any (S : St w0 w (cellsT g 97 (slotC pd fr sz) :: diskT pd d :: tl)) (hf : fr + 2 * sz ≤ d.lasts.length) (hw : d.waits.length ≤ 1000) (hs : d.syncs < 100000000) (a : Option Addr) (l : List UInt8) (n cap : Nat) (hn : l.length = n) (hm : n ≤ 65536) (hcap : n ≤ cap) (hnil : a = none → cap = 0) (hA : Reads w0 tl a l) (age : Int) :
    Calls Try.prog 64 #[.pointer (some ⟨g, 0, none⟩), .slice a n cap, .int .i64 age] w fun e w' => e = .returned (.int .i64 (slStart d fr sz l age).1) ∧ St w0 w' (cellsT g 97 (slotC pd fr sz) :: diskT pd (slStart d fr sz l age).2 :: tl) := by
  obtain ⟨R, hR⟩ : ∃ R, slStart d fr sz l age = R := ⟨_, rfl⟩
  rw [hR]
  unfold slStart at hR
  have HR := hid hR
  have HN := hid hn
  have HA := hid hA
  have HNil := hid hnil
  obtain ⟨nn, hnn⟩ : ∃ nn, (codeNum age).length = nn := ⟨_, rfl⟩
  have HNn := hid hnn
  have hn8 : nn ≤ 8 := by rw [← hnn]; exact codeNum_len age
  have HL := hid (slLoad_any S hf hw)
  have hd := S.disk 1 rfl
  have hN6 := hd.2.2.1
  obtain ⟨O, hO⟩ : ∃ O, d.shows fr sz = O := ⟨_, rfl⟩
  rw [hO] at HL
  rw [hnn, hO] at HR
  clear hR hn hA hnil hnn hd
  by_cases h0 : nn = 0
  · have g0 : ((nn : Int) == 0) = true := by rw [h0]; rfl
    have HR2 : Hid ((1, d) = R) := by rw [Hid, ← HR.out, if_pos h0]
    clear h0
    go_enter Try.func64, Try.ntmps64
    go_wp2_with fail
    refine (num_any age w).mono ?_
    rintro e w1 ⟨v1, rfl, ho1, hb1⟩
    obtain ⟨a1, c1, rfl⟩ := ho1.written HNn.out
    have S1 := S.grow hb1
    clear ho1 hb1
    go_wp2
    go_ret
    rw [← HR2.out]
    exact ⟨rfl, S1⟩
  have g0 : ((nn : Int) == 0) = false := by simpa using h0
  by_cases h1 : oldO O age = true
  · have HR2 : Hid ((6, d) = R) := by rw [Hid, ← HR.out, if_neg h0, if_pos h1]
    rcases O with _ | ⟨q, was⟩
    · cases h1
    have g1 : decide (age ≤ (was : Int)) = true := h1
    have HO := hid hO
    clear h0 h1 hO
    go_enter Try.func64, Try.ntmps64
    go_wp2_with fail
    refine (num_any age w).mono ?_
    rintro e w1 ⟨v1, rfl, ho1, hb1⟩
    obtain ⟨a1, c1, rfl⟩ := ho1.written HNn.out
    have S1 := S.grow hb1
    have hL2 := slLoad_any S1 hf hw
    rw [HO.out] at hL2
    clear ho1 hb1
    go_wp2_with fail
    refine hL2.mono ?_
    rintro e w2 ⟨a2, c2, rfl, -, -, -, S2⟩
    simp only [picA, Option.isSome_some]
    clear hL2
    go_wp2
    go_ret
    rw [← HR2.out]
    exact ⟨rfl, S2.tail⟩
  have h1' := h1
  rw [Bool.not_eq_true] at h1
  obtain ⟨F, hF⟩ : ∃ F, frameB (codeNum age ++ l) = F := ⟨_, rfl⟩
  rw [hF] at HR
  have HF := hid hF
  have hFl := frameB_le20 (codeNum age ++ l)
  rw [hF] at hFl
  obtain ⟨f, hf0⟩ : ∃ f, F.length = f := ⟨_, rfl⟩
  rw [hf0] at HR hFl
  have HFl := hid hf0
  clear hF hf0
  rcases O with _ | ⟨q, was⟩
  · have HO := hid hO
    clear hO
    go_enter Try.func64, Try.ntmps64
    go_wp2_with fail
    refine (num_any age w).mono ?_
    rintro e w1 ⟨v1, rfl, ho1, hb1⟩
    obtain ⟨a1, c1, rfl⟩ := ho1.written HNn.out
    have S1 := S.grow hb1
    have hL2 := slLoad_any S1 hf hw
    rw [HO.out] at hL2
    have HL2 := hid hL2
    clear ho1 hb1 hL2
    go_wp2_with fail
    refine HL2.out.mono ?_
    rintro e w2 ⟨a2, c2, rfl, -, -, -, S2⟩
    simp only [picA, Option.isSome_none]
    have S3 := S2.tail
    clear S2
    go_wp2_with fail
    refine (num_any age w2).mono ?_
    rintro e w4 ⟨v4, rfl, ho4, hb4⟩
    obtain ⟨a4, c4, rfl⟩ := ho4.written HNn.out
    have S4 := (S3.bytes ho4 hb4).rot
    clear ho4 hb4
    have hm5 := atG_lit eSok w4 [⟨a4, nn, c4, codeNum age⟩, ⟨a, n, cap, l⟩] #[.slice a4 nn c4, .slice a n cap] rfl (by simp [maxLen])
    have HM5 := hid hm5
    have HOk : Hid (∀ (o : Obj) (x : BS), x ∈ ([⟨a4, nn, c4, codeNum age⟩, ⟨a, n, cap, l⟩] : List BS) → BS.Ok (w4.alloc o) x) := by
      intro o x hx
      have S5 := S4.alloc o
      have q1 := S5.slA 0 rfl
      simp at hx
      rcases hx with rfl | rfl
      · exact ⟨q1.1, q1.2.1, q1.2.2.2.1, q1.2.2.2.2⟩
      · exact ⟨HN.out, hcap, HNil.out, HA.out _ [_, _, _] S5⟩
    clear hm5
    go_wp2_with fail
    refine (concat_any _ _ 2 _ _ rfl (by omega) (by exact HM5.out) (by exact HOk.out _) (nn + n) (by simp [total]) (by omega) (by omega)).mono ?_
    rintro e w5 ⟨a5, c5, rfl, ho5, hb5⟩
    have S5 : St w0 w5 (bytesT (.slice a5 (nn + n) c5) (codeNum age ++ l) :: bytesT (.slice a4 nn c4) (codeNum age) :: cellsT g 97 (slotC pd fr sz) :: diskT pd d :: tl) := by
      have := ((S4.alloc _).bytes ho5 hb5).rot
      simpa using this
    have hs5 := S5.slA 0 rfl
    clear ho5 hb5
    go_wp2_with fail
    refine (frPut_any a5 (codeNum age ++ l) (nn + n) c5 w5 hs5.1 (by unfold maxLen; omega) hs5.2.1 hs5.2.2.2.1 (by exact hs5.2.2.2.2)).mono ?_
    rintro e w6 ⟨a6, c6, rfl, ho6, hb6⟩
    rw [HF.out, HFl.out] at ho6 ⊢
    have S6 : St w0 w6 (cellsT g 97 (slotC pd fr sz) :: diskT pd d :: bytesT (.slice a6 f c6) F :: tl) := ((S5.tail.tail.bytes ho6 hb6).rot.front 2 rfl).front 2 rfl
    clear ho6 hb6
    have z6 := S6.cell 0 rfl 2 rfl
    by_cases hf0 : f = 0
    · have g1 : ((f : Int) == 0) = true := by rw [hf0]; rfl
      have HR2 : Hid ((3, d) = R) := by rw [Hid, ← HR.out, if_neg h0, if_neg h1', if_pos (.inl hf0)]
      clear hf0
      go_wp2
      go_ret
      rw [← HR2.out]
      exact ⟨rfl, S6.take2⟩
    have g1 : ((f : Int) == 0) = false := by simpa using hf0
    by_cases hf1 : sz < f
    · have g2 : decide ((sz : Int) < (f : Int)) = true := decide_eq_true (by omega)
      have g2n : decide (sz < f) = true := decide_eq_true hf1
      have HR2 : Hid ((3, d) = R) := by rw [Hid, ← HR.out, if_neg h0, if_neg h1', if_pos (.inr hf1)]
      clear hf0 hf1
      go_wp2
      go_ret
      rw [← HR2.out]
      exact ⟨rfl, S6.take2⟩
    have g2 : decide ((sz : Int) < (f : Int)) = false := decide_eq_false (by omega)
    have g2n : decide (sz < f) = false := decide_eq_false hf1
    have HR2 := HR.out
    rw [if_neg h0, if_neg h1', if_neg (by omega)] at HR2
    have HR3 := hid HR2
    clear HR2
    have sn := newest_three (pic (piece d.bytes (fr + 0 * sz) sz)) (pic (piece d.bytes (fr + 1 * sz) sz))
    have HNw := newest_any S6 hf hw
    obtain ⟨nw, hnw⟩ : ∃ nw, newestI (pic (piece d.bytes (fr + 0 * sz) sz)) (pic (piece d.bytes (fr + 1 * sz) sz)) = nw := ⟨_, rfl⟩
    rw [hnw] at sn HNw HR3
    have HNW := hid HNw
    clear HNw hnw
    go_wp2_with fail
    refine HNW.out.mono ?_
    rintro e w7 ⟨rfl, S7⟩
    clear HNW HR HOk HM5 S4 S5 S6
    rcases sn with rfl | rfl | rfl
    · obtain ⟨j, hj⟩ : ∃ j : Nat, 0 = j := ⟨_, rfl⟩
      have HR4 : Hid ((0, ((d.write ((fr + j * sz : Nat) : Int) (List.replicate sz 0)).sync).write ((fr + j * sz : Nat) : Int) F) = R) := by rw [Hid, ← HR3.out, ← hj]; rfl
      have hpl := place_any S7 j (by omega) (by omega)
      have hj1 : j ≤ 1 := by omega
      rw [show (j : Int) = 0 by omega] at hpl
      have HPl := hid hpl
      clear hpl hj HR3
      go_wp2_with fail
      refine HPl.out.mono ?_
      rintro e w8 ⟨rfl, S8⟩
      clear HPl
      obtain ⟨p0, hp0⟩ : ∃ p0, fr + j * sz = p0 := ⟨_, rfl⟩
      have hpb : p0 + sz ≤ d.lasts.length := by
        have : j * sz ≤ 1 * sz := Nat.mul_le_mul_right sz hj1
        omega
      rw [hp0] at HR4 ⊢
      clear hp0
      have HC : Hid (∀ w', St w0 w' (cellsT g 97 (slotC pd fr sz) :: diskT pd d :: bytesT (.slice a6 f c6) F :: tl) → w'.cell? ⟨g, 0, none⟩ = some pd ∧ w'.cell? ⟨g, 2, none⟩ = some (.int .i64 (sz : Int))) := fun w' S' => ⟨S'.cell 0 rfl 0 rfl, S'.cell 0 rfl 2 rfl⟩
      have c1 : d.can ((p0 : Nat) : Int) sz = 0 := by rw [DSt.can_code, DSt.code, if_neg (by omega), if_neg (by omega)]
      have HC1 := hid c1
      clear c1
      go_wp2_with fail
      refine wp_region_held_drew (S := (fun w' => w'.cell? ⟨g, 0, none⟩ = some pd ∧ w'.cell? ⟨g, 2, none⟩ = some (.int .i64 (sz : Int)))) (by kernel_rfl) (by exact HC.out _ S8.drew) (fun hHeld => ?_)
      change wpAnyH _ _ _ _ _ 11 (Array.replicate 11 false) _ _
      refine wpAnyH_take (i := 0) (v := ?v1) (ops_at rfl) (by kernel_rfl) (by kernel_rfl) (by kernel_rfl) (fun _ _ _ h => h) (Or.inl ⟨by rfl, ?hy1⟩) (by assumption) ?rest1
      case hy1 => intro w' hSw; (try dsimp only at hSw); go_simp; try with_reducible rfl
      try simp only [Act.put, List.setIfInBounds_toArray, List.set_cons_zero, List.set_cons_succ]
      refine wpAnyH_take (i := 1) (v := ?v2) (ops_at rfl) (by kernel_rfl) (by kernel_rfl) (by kernel_rfl) (fun _ _ _ h => h) (Or.inl ⟨by rfl, ?hy2⟩) (by assumption) ?rest2
      case hy2 => intro w' hSw; (try dsimp only at hSw); go_simp; try with_reducible rfl
      try simp only [Act.put, List.setIfInBounds_toArray, List.set_cons_zero, List.set_cons_succ]
      refine wpAnyH_take (i := 2) (v := ?v3) (ops_at rfl) (by kernel_rfl) (by kernel_rfl) (by kernel_rfl) (fun _ _ _ h => h) (Or.inl ⟨by rfl, ?hy3⟩) (by assumption) ?rest3
      case hy3 => intro w' hSw; (try dsimp only at hSw); go_simp; try with_reducible rfl
      try simp only [Act.put, List.setIfInBounds_toArray, List.set_cons_zero, List.set_cons_succ]
      refine wpAnyH_take (i := 3) (v := ?v4) (ops_at rfl) (by kernel_rfl) (by kernel_rfl) (by kernel_rfl) (fun _ _ _ h => h) (Or.inl ⟨by rfl, ?hy4⟩) (by assumption) ?rest4
      case hy4 => intro w' hSw; (try dsimp only at hSw); go_simp; try with_reducible rfl
      try simp only [Act.put, List.setIfInBounds_toArray, List.set_cons_zero, List.set_cons_succ]
      refine wpAnyH_take (i := 4) (v := ?v5) (ops_at rfl) (by kernel_rfl) (by kernel_rfl) (by kernel_rfl) (fun _ _ _ h => h) (Or.inl ⟨by rfl, ?hy5⟩) (by assumption) ?rest5
      case hy5 => intro w' hSw; (try dsimp only at hSw); go_simp; try with_reducible rfl
      try simp only [Act.put, List.setIfInBounds_toArray, List.set_cons_zero, List.set_cons_succ]
      refine wpAnyH_take (i := 5) (v := ?v6) (ops_at rfl) (by kernel_rfl) (by kernel_rfl) (by kernel_rfl) (fun _ _ _ h => h) (Or.inl ⟨by rfl, ?hy6⟩) (by assumption) ?rest6
      case hy6 => intro w' hSw; (try dsimp only at hSw); go_simp; try with_reducible rfl
      try simp only [Act.put, List.setIfInBounds_toArray, List.set_cons_zero, List.set_cons_succ]
      refine wpAnyH_take (i := 6) (v := ?v7) (ops_at rfl) (by kernel_rfl) (by kernel_rfl) (by kernel_rfl) (fun _ _ _ h => h) (Or.inl ⟨by rfl, ?hy7⟩) (by assumption) ?rest7
      case hy7 => intro w' hSw; (try dsimp only at hSw); go_simp; try with_reducible rfl
      try simp only [Act.put, List.setIfInBounds_toArray, List.set_cons_zero, List.set_cons_succ]
      refine wpAnyH_take (i := 7) (v := ?v8) (ops_at rfl) (by kernel_rfl) (by kernel_rfl) (by kernel_rfl) (fun _ _ _ h => h) (Or.inl ⟨by rfl, ?hy8⟩) (by assumption) ?rest8
      case hy8 => intro w' hSw; (try dsimp only at hSw); go_simp; try with_reducible rfl
      try simp only [Act.put, List.setIfInBounds_toArray, List.set_cons_zero, List.set_cons_succ]
      refine wpAnyH_take (i := 8) (v := ?v9) (ops_at rfl) (by kernel_rfl) (by kernel_rfl) (by kernel_rfl) (fun _ _ _ h => h) (Or.inl ⟨by rfl, ?hy9⟩) (by assumption) ?rest9
      case hy9 => intro w' hSw; (try dsimp only at hSw); go_simp; try with_reducible rfl
      try simp only [Act.put, List.setIfInBounds_toArray, List.set_cons_zero, List.set_cons_succ]
      refine wpAnyH_ready (rs := [9]) (by kernel_rfl) (by simp) ?_
      refine AllReadyH.cons (ops_at rfl) (fun K hK => ?_) AllReadyH.nil
      refine step_make2 (by rfl) (.tmp 68) (.tmp 68) 27 rfl _ _ rfl rfl (run_make _ sz (by omega)) ?_
      rintro v9 w9 ⟨rfl, ho9, hb9⟩
      have S9 := (S8.drew.bytes ho9 hb9).rot
      clear ho9 hb9
      refine hK.out _ _ (by exact HC.out _ S9.tail) (fun hHeld => ?_)
      clear hK K
      try simp only [Act.put, List.setIfInBounds_toArray, List.set_cons_zero, List.set_cons_succ]
      refine wpAnyH_ready (rs := [10]) (by kernel_rfl) (by simp) ?_
      refine AllReadyH.cons (ops_at rfl) (fun K hK => ?_) AllReadyH.nil
      go_simp
      refine (hwrite (by exact S9) 2 rfl _ _ (List.replicate sz 0) sz sz 0 HC1.out (by simp) (by omega) (by omega) (fun e => by cases e) (by exact S9.at 0 rfl)).mono ?_
      rintro e w10 ⟨rfl, S10⟩
      have S10t : St w0 w10 (cellsT g 97 (slotC pd fr sz) :: diskT pd (d.write (p0 : Int) (List.replicate sz 0)) :: bytesT (.slice a6 f c6) F :: tl) := S10.tail
      refine hK.out _ _ (by exact ⟨S10t.cell 0 rfl 0 rfl, S10t.cell 0 rfl 2 rfl⟩) (fun hHeld => ?_)
      clear hK K
      try simp only [Act.put, List.setIfInBounds_toArray, List.set_cons_zero, List.set_cons_succ]
      refine wpAnyH_done (by kernel_rfl) ?_ _
      have x10 := S10t.cell 0 rfl 0 rfl
      go_wp2_with fail
      refine (hsync S10t 1 rfl (Nat.le_trans (DSt.write_waits _ _ _) (by omega)) (by rw [DSt.write_syncs]; omega)).mono ?_
      rintro e w11 ⟨rfl, S11⟩
      have S11t : St w0 w11 (cellsT g 97 (slotC pd fr sz) :: diskT pd (d.write (p0 : Int) (List.replicate sz 0)).sync :: bytesT (.slice a6 f c6) F :: tl) := S11
      have x11 := S11t.cell 0 rfl 0 rfl
      have hl11 : (d.write (p0 : Int) (List.replicate sz 0)).sync.lasts.length = d.lasts.length := by
        show (dDone _ _ _).length = _
        rw [dDone_len _ _ _ (fit_write (S8.disk 1 rfl).1 (by rw [List.length_replicate]; exact hpb)), DSt.write_lasts]
      have HC2 : Hid ((d.write (p0 : Int) (List.replicate sz 0)).sync.can (p0 : Int) f = 0) := by rw [Hid, DSt.can_code, DSt.code, hl11, if_neg (by omega), if_neg (by omega)]
      have hs6 := S11t.slA 2 rfl
      clear hl11
      go_wp2_with fail
      refine (hwrite (by exact S11t) 1 rfl _ a6 F f c6 0 HC2.out HFl.out (by omega) (by rw [(sync_waits _).1]; simp) hs6.2.2.2.1 (by exact hs6.2.2.2.2)).mono ?_
      rintro e w12 ⟨rfl, S12⟩
      go_wp2
      go_ret
      rw [← HR4.out]
      exact ⟨rfl, (S12 : St w0 w12 (_ :: _ :: _ :: tl)).take2⟩
    · obtain ⟨j, hj⟩ : ∃ j : Nat, 1 = j := ⟨_, rfl⟩
      have HR4 : Hid ((0, ((d.write ((fr + j * sz : Nat) : Int) (List.replicate sz 0)).sync).write ((fr + j * sz : Nat) : Int) F) = R) := by rw [Hid, ← HR3.out, ← hj]; rfl
      have hpl := place_any S7 j (by omega) (by omega)
      have hj1 : j ≤ 1 := by omega
      rw [show (j : Int) = 1 by omega] at hpl
      have HPl := hid hpl
      clear hpl hj HR3
      go_wp2_with fail
      refine HPl.out.mono ?_
      rintro e w8 ⟨rfl, S8⟩
      clear HPl
      obtain ⟨p0, hp0⟩ : ∃ p0, fr + j * sz = p0 := ⟨_, rfl⟩
      have hpb : p0 + sz ≤ d.lasts.length := by
        have : j * sz ≤ 1 * sz := Nat.mul_le_mul_right sz hj1
        omega
      rw [hp0] at HR4 ⊢
      clear hp0
      have HC : Hid (∀ w', St w0 w' (cellsT g 97 (slotC pd fr sz) :: diskT pd d :: bytesT (.slice a6 f c6) F :: tl) → w'.cell? ⟨g, 0, none⟩ = some pd ∧ w'.cell? ⟨g, 2, none⟩ = some (.int .i64 (sz : Int))) := fun w' S' => ⟨S'.cell 0 rfl 0 rfl, S'.cell 0 rfl 2 rfl⟩
      have c1 : d.can ((p0 : Nat) : Int) sz = 0 := by rw [DSt.can_code, DSt.code, if_neg (by omega), if_neg (by omega)]
      have HC1 := hid c1
      clear c1
      go_wp2_with fail
      refine wp_region_held_drew (S := (fun w' => w'.cell? ⟨g, 0, none⟩ = some pd ∧ w'.cell? ⟨g, 2, none⟩ = some (.int .i64 (sz : Int)))) (by kernel_rfl) (by exact HC.out _ S8.drew) (fun hHeld => ?_)
      change wpAnyH _ _ _ _ _ 11 (Array.replicate 11 false) _ _
      refine wpAnyH_take (i := 0) (v := ?v12) (ops_at rfl) (by kernel_rfl) (by kernel_rfl) (by kernel_rfl) (fun _ _ _ h => h) (Or.inl ⟨by rfl, ?hy12⟩) (by assumption) ?rest12
      case hy12 => intro w' hSw; (try dsimp only at hSw); go_simp; try with_reducible rfl
      try simp only [Act.put, List.setIfInBounds_toArray, List.set_cons_zero, List.set_cons_succ]
      refine wpAnyH_take (i := 1) (v := ?v13) (ops_at rfl) (by kernel_rfl) (by kernel_rfl) (by kernel_rfl) (fun _ _ _ h => h) (Or.inl ⟨by rfl, ?hy13⟩) (by assumption) ?rest13
      case hy13 => intro w' hSw; (try dsimp only at hSw); go_simp; try with_reducible rfl
      try simp only [Act.put, List.setIfInBounds_toArray, List.set_cons_zero, List.set_cons_succ]
      refine wpAnyH_take (i := 2) (v := ?v14) (ops_at rfl) (by kernel_rfl) (by kernel_rfl) (by kernel_rfl) (fun _ _ _ h => h) (Or.inl ⟨by rfl, ?hy14⟩) (by assumption) ?rest14
      case hy14 => intro w' hSw; (try dsimp only at hSw); go_simp; try with_reducible rfl
      try simp only [Act.put, List.setIfInBounds_toArray, List.set_cons_zero, List.set_cons_succ]
      refine wpAnyH_take (i := 3) (v := ?v15) (ops_at rfl) (by kernel_rfl) (by kernel_rfl) (by kernel_rfl) (fun _ _ _ h => h) (Or.inl ⟨by rfl, ?hy15⟩) (by assumption) ?rest15
      case hy15 => intro w' hSw; (try dsimp only at hSw); go_simp; try with_reducible rfl
      try simp only [Act.put, List.setIfInBounds_toArray, List.set_cons_zero, List.set_cons_succ]
      refine wpAnyH_take (i := 4) (v := ?v16) (ops_at rfl) (by kernel_rfl) (by kernel_rfl) (by kernel_rfl) (fun _ _ _ h => h) (Or.inl ⟨by rfl, ?hy16⟩) (by assumption) ?rest16
      case hy16 => intro w' hSw; (try dsimp only at hSw); go_simp; try with_reducible rfl
      try simp only [Act.put, List.setIfInBounds_toArray, List.set_cons_zero, List.set_cons_succ]
      refine wpAnyH_take (i := 5) (v := ?v17) (ops_at rfl) (by kernel_rfl) (by kernel_rfl) (by kernel_rfl) (fun _ _ _ h => h) (Or.inl ⟨by rfl, ?hy17⟩) (by assumption) ?rest17
      case hy17 => intro w' hSw; (try dsimp only at hSw); go_simp; try with_reducible rfl
      try simp only [Act.put, List.setIfInBounds_toArray, List.set_cons_zero, List.set_cons_succ]
      refine wpAnyH_take (i := 6) (v := ?v18) (ops_at rfl) (by kernel_rfl) (by kernel_rfl) (by kernel_rfl) (fun _ _ _ h => h) (Or.inl ⟨by rfl, ?hy18⟩) (by assumption) ?rest18
      case hy18 => intro w' hSw; (try dsimp only at hSw); go_simp; try with_reducible rfl
      try simp only [Act.put, List.setIfInBounds_toArray, List.set_cons_zero, List.set_cons_succ]
      refine wpAnyH_take (i := 7) (v := ?v19) (ops_at rfl) (by kernel_rfl) (by kernel_rfl) (by kernel_rfl) (fun _ _ _ h => h) (Or.inl ⟨by rfl, ?hy19⟩) (by assumption) ?rest19
      case hy19 => intro w' hSw; (try dsimp only at hSw); go_simp; try with_reducible rfl
      try simp only [Act.put, List.setIfInBounds_toArray, List.set_cons_zero, List.set_cons_succ]
      refine wpAnyH_take (i := 8) (v := ?v20) (ops_at rfl) (by kernel_rfl) (by kernel_rfl) (by kernel_rfl) (fun _ _ _ h => h) (Or.inl ⟨by rfl, ?hy20⟩) (by assumption) ?rest20
      case hy20 => intro w' hSw; (try dsimp only at hSw); go_simp; try with_reducible rfl
      try simp only [Act.put, List.setIfInBounds_toArray, List.set_cons_zero, List.set_cons_succ]
      refine wpAnyH_ready (rs := [9]) (by kernel_rfl) (by simp) ?_
      refine AllReadyH.cons (ops_at rfl) (fun K hK => ?_) AllReadyH.nil
      refine step_make2 (by rfl) (.tmp 68) (.tmp 68) 27 rfl _ _ rfl rfl (run_make _ sz (by omega)) ?_
      rintro v9 w9 ⟨rfl, ho9, hb9⟩
      have S9 := (S8.drew.bytes ho9 hb9).rot
      clear ho9 hb9
      refine hK.out _ _ (by exact HC.out _ S9.tail) (fun hHeld => ?_)
      clear hK K
      try simp only [Act.put, List.setIfInBounds_toArray, List.set_cons_zero, List.set_cons_succ]
      refine wpAnyH_ready (rs := [10]) (by kernel_rfl) (by simp) ?_
      refine AllReadyH.cons (ops_at rfl) (fun K hK => ?_) AllReadyH.nil
      go_simp
      refine (hwrite (by exact S9) 2 rfl _ _ (List.replicate sz 0) sz sz 0 HC1.out (by simp) (by omega) (by omega) (fun e => by cases e) (by exact S9.at 0 rfl)).mono ?_
      rintro e w10 ⟨rfl, S10⟩
      have S10t : St w0 w10 (cellsT g 97 (slotC pd fr sz) :: diskT pd (d.write (p0 : Int) (List.replicate sz 0)) :: bytesT (.slice a6 f c6) F :: tl) := S10.tail
      refine hK.out _ _ (by exact ⟨S10t.cell 0 rfl 0 rfl, S10t.cell 0 rfl 2 rfl⟩) (fun hHeld => ?_)
      clear hK K
      try simp only [Act.put, List.setIfInBounds_toArray, List.set_cons_zero, List.set_cons_succ]
      refine wpAnyH_done (by kernel_rfl) ?_ _
      have x10 := S10t.cell 0 rfl 0 rfl
      go_wp2_with fail
      refine (hsync S10t 1 rfl (Nat.le_trans (DSt.write_waits _ _ _) (by omega)) (by rw [DSt.write_syncs]; omega)).mono ?_
      rintro e w11 ⟨rfl, S11⟩
      have S11t : St w0 w11 (cellsT g 97 (slotC pd fr sz) :: diskT pd (d.write (p0 : Int) (List.replicate sz 0)).sync :: bytesT (.slice a6 f c6) F :: tl) := S11
      have x11 := S11t.cell 0 rfl 0 rfl
      have hl11 : (d.write (p0 : Int) (List.replicate sz 0)).sync.lasts.length = d.lasts.length := by
        show (dDone _ _ _).length = _
        rw [dDone_len _ _ _ (fit_write (S8.disk 1 rfl).1 (by rw [List.length_replicate]; exact hpb)), DSt.write_lasts]
      have HC2 : Hid ((d.write (p0 : Int) (List.replicate sz 0)).sync.can (p0 : Int) f = 0) := by rw [Hid, DSt.can_code, DSt.code, hl11, if_neg (by omega), if_neg (by omega)]
      have hs6 := S11t.slA 2 rfl
      clear hl11
      go_wp2_with fail
      refine (hwrite (by exact S11t) 1 rfl _ a6 F f c6 0 HC2.out HFl.out (by omega) (by rw [(sync_waits _).1]; simp) hs6.2.2.2.1 (by exact hs6.2.2.2.2)).mono ?_
      rintro e w12 ⟨rfl, S12⟩
      go_wp2
      go_ret
      rw [← HR4.out]
      exact ⟨rfl, (S12 : St w0 w12 (_ :: _ :: _ :: tl)).take2⟩
    · obtain ⟨j, hj⟩ : ∃ j : Nat, 0 = j := ⟨_, rfl⟩
      have HR4 : Hid ((0, ((d.write ((fr + j * sz : Nat) : Int) (List.replicate sz 0)).sync).write ((fr + j * sz : Nat) : Int) F) = R) := by rw [Hid, ← HR3.out, ← hj]; rfl
      have hpl := place_any S7 j (by omega) (by omega)
      have hj1 : j ≤ 1 := by omega
      rw [show (j : Int) = 0 by omega] at hpl
      have HPl := hid hpl
      clear hpl hj HR3
      go_wp2_with fail
      refine HPl.out.mono ?_
      rintro e w8 ⟨rfl, S8⟩
      clear HPl
      obtain ⟨p0, hp0⟩ : ∃ p0, fr + j * sz = p0 := ⟨_, rfl⟩
      have hpb : p0 + sz ≤ d.lasts.length := by
        have : j * sz ≤ 1 * sz := Nat.mul_le_mul_right sz hj1
        omega
      rw [hp0] at HR4 ⊢
      clear hp0
      have HC : Hid (∀ w', St w0 w' (cellsT g 97 (slotC pd fr sz) :: diskT pd d :: bytesT (.slice a6 f c6) F :: tl) → w'.cell? ⟨g, 0, none⟩ = some pd ∧ w'.cell? ⟨g, 2, none⟩ = some (.int .i64 (sz : Int))) := fun w' S' => ⟨S'.cell 0 rfl 0 rfl, S'.cell 0 rfl 2 rfl⟩
      have c1 : d.can ((p0 : Nat) : Int) sz = 0 := by rw [DSt.can_code, DSt.code, if_neg (by omega), if_neg (by omega)]
      have HC1 := hid c1
      clear c1
      go_wp2_with fail
      refine wp_region_held_drew (S := (fun w' => w'.cell? ⟨g, 0, none⟩ = some pd ∧ w'.cell? ⟨g, 2, none⟩ = some (.int .i64 (sz : Int)))) (by kernel_rfl) (by exact HC.out _ S8.drew) (fun hHeld => ?_)
      change wpAnyH _ _ _ _ _ 11 (Array.replicate 11 false) _ _
      refine wpAnyH_take (i := 0) (v := ?v23) (ops_at rfl) (by kernel_rfl) (by kernel_rfl) (by kernel_rfl) (fun _ _ _ h => h) (Or.inl ⟨by rfl, ?hy23⟩) (by assumption) ?rest23
      case hy23 => intro w' hSw; (try dsimp only at hSw); go_simp; try with_reducible rfl
      try simp only [Act.put, List.setIfInBounds_toArray, List.set_cons_zero, List.set_cons_succ]
      refine wpAnyH_take (i := 1) (v := ?v24) (ops_at rfl) (by kernel_rfl) (by kernel_rfl) (by kernel_rfl) (fun _ _ _ h => h) (Or.inl ⟨by rfl, ?hy24⟩) (by assumption) ?rest24
      case hy24 => intro w' hSw; (try dsimp only at hSw); go_simp; try with_reducible rfl
      try simp only [Act.put, List.setIfInBounds_toArray, List.set_cons_zero, List.set_cons_succ]
      refine wpAnyH_take (i := 2) (v := ?v25) (ops_at rfl) (by kernel_rfl) (by kernel_rfl) (by kernel_rfl) (fun _ _ _ h => h) (Or.inl ⟨by rfl, ?hy25⟩) (by assumption) ?rest25
      case hy25 => intro w' hSw; (try dsimp only at hSw); go_simp; try with_reducible rfl
      try simp only [Act.put, List.setIfInBounds_toArray, List.set_cons_zero, List.set_cons_succ]
      refine wpAnyH_take (i := 3) (v := ?v26) (ops_at rfl) (by kernel_rfl) (by kernel_rfl) (by kernel_rfl) (fun _ _ _ h => h) (Or.inl ⟨by rfl, ?hy26⟩) (by assumption) ?rest26
      case hy26 => intro w' hSw; (try dsimp only at hSw); go_simp; try with_reducible rfl
      try simp only [Act.put, List.setIfInBounds_toArray, List.set_cons_zero, List.set_cons_succ]
      refine wpAnyH_take (i := 4) (v := ?v27) (ops_at rfl) (by kernel_rfl) (by kernel_rfl) (by kernel_rfl) (fun _ _ _ h => h) (Or.inl ⟨by rfl, ?hy27⟩) (by assumption) ?rest27
      case hy27 => intro w' hSw; (try dsimp only at hSw); go_simp; try with_reducible rfl
      try simp only [Act.put, List.setIfInBounds_toArray, List.set_cons_zero, List.set_cons_succ]
      refine wpAnyH_take (i := 5) (v := ?v28) (ops_at rfl) (by kernel_rfl) (by kernel_rfl) (by kernel_rfl) (fun _ _ _ h => h) (Or.inl ⟨by rfl, ?hy28⟩) (by assumption) ?rest28
      case hy28 => intro w' hSw; (try dsimp only at hSw); go_simp; try with_reducible rfl
      try simp only [Act.put, List.setIfInBounds_toArray, List.set_cons_zero, List.set_cons_succ]
      refine wpAnyH_take (i := 6) (v := ?v29) (ops_at rfl) (by kernel_rfl) (by kernel_rfl) (by kernel_rfl) (fun _ _ _ h => h) (Or.inl ⟨by rfl, ?hy29⟩) (by assumption) ?rest29
      case hy29 => intro w' hSw; (try dsimp only at hSw); go_simp; try with_reducible rfl
      try simp only [Act.put, List.setIfInBounds_toArray, List.set_cons_zero, List.set_cons_succ]
      refine wpAnyH_take (i := 7) (v := ?v30) (ops_at rfl) (by kernel_rfl) (by kernel_rfl) (by kernel_rfl) (fun _ _ _ h => h) (Or.inl ⟨by rfl, ?hy30⟩) (by assumption) ?rest30
      case hy30 => intro w' hSw; (try dsimp only at hSw); go_simp; try with_reducible rfl
      try simp only [Act.put, List.setIfInBounds_toArray, List.set_cons_zero, List.set_cons_succ]
      refine wpAnyH_take (i := 8) (v := ?v31) (ops_at rfl) (by kernel_rfl) (by kernel_rfl) (by kernel_rfl) (fun _ _ _ h => h) (Or.inl ⟨by rfl, ?hy31⟩) (by assumption) ?rest31
      case hy31 => intro w' hSw; (try dsimp only at hSw); go_simp; try with_reducible rfl
      try simp only [Act.put, List.setIfInBounds_toArray, List.set_cons_zero, List.set_cons_succ]
      refine wpAnyH_ready (rs := [9]) (by kernel_rfl) (by simp) ?_
      refine AllReadyH.cons (ops_at rfl) (fun K hK => ?_) AllReadyH.nil
      refine step_make2 (by rfl) (.tmp 68) (.tmp 68) 27 rfl _ _ rfl rfl (run_make _ sz (by omega)) ?_
      rintro v9 w9 ⟨rfl, ho9, hb9⟩
      have S9 := (S8.drew.bytes ho9 hb9).rot
      clear ho9 hb9
      refine hK.out _ _ (by exact HC.out _ S9.tail) (fun hHeld => ?_)
      clear hK K
      try simp only [Act.put, List.setIfInBounds_toArray, List.set_cons_zero, List.set_cons_succ]
      refine wpAnyH_ready (rs := [10]) (by kernel_rfl) (by simp) ?_
      refine AllReadyH.cons (ops_at rfl) (fun K hK => ?_) AllReadyH.nil
      go_simp
      refine (hwrite (by exact S9) 2 rfl _ _ (List.replicate sz 0) sz sz 0 HC1.out (by simp) (by omega) (by omega) (fun e => by cases e) (by exact S9.at 0 rfl)).mono ?_
      rintro e w10 ⟨rfl, S10⟩
      have S10t : St w0 w10 (cellsT g 97 (slotC pd fr sz) :: diskT pd (d.write (p0 : Int) (List.replicate sz 0)) :: bytesT (.slice a6 f c6) F :: tl) := S10.tail
      refine hK.out _ _ (by exact ⟨S10t.cell 0 rfl 0 rfl, S10t.cell 0 rfl 2 rfl⟩) (fun hHeld => ?_)
      clear hK K
      try simp only [Act.put, List.setIfInBounds_toArray, List.set_cons_zero, List.set_cons_succ]
      refine wpAnyH_done (by kernel_rfl) ?_ _
      have x10 := S10t.cell 0 rfl 0 rfl
      go_wp2_with fail
      refine (hsync S10t 1 rfl (Nat.le_trans (DSt.write_waits _ _ _) (by omega)) (by rw [DSt.write_syncs]; omega)).mono ?_
      rintro e w11 ⟨rfl, S11⟩
      have S11t : St w0 w11 (cellsT g 97 (slotC pd fr sz) :: diskT pd (d.write (p0 : Int) (List.replicate sz 0)).sync :: bytesT (.slice a6 f c6) F :: tl) := S11
      have x11 := S11t.cell 0 rfl 0 rfl
      have hl11 : (d.write (p0 : Int) (List.replicate sz 0)).sync.lasts.length = d.lasts.length := by
        show (dDone _ _ _).length = _
        rw [dDone_len _ _ _ (fit_write (S8.disk 1 rfl).1 (by rw [List.length_replicate]; exact hpb)), DSt.write_lasts]
      have HC2 : Hid ((d.write (p0 : Int) (List.replicate sz 0)).sync.can (p0 : Int) f = 0) := by rw [Hid, DSt.can_code, DSt.code, hl11, if_neg (by omega), if_neg (by omega)]
      have hs6 := S11t.slA 2 rfl
      clear hl11
      go_wp2_with fail
      refine (hwrite (by exact S11t) 1 rfl _ a6 F f c6 0 HC2.out HFl.out (by omega) (by rw [(sync_waits _).1]; simp) hs6.2.2.2.1 (by exact hs6.2.2.2.2)).mono ?_
      rintro e w12 ⟨rfl, S12⟩
      go_wp2
      go_ret
      rw [← HR4.out]
      exact ⟨rfl, (S12 : St w0 w12 (_ :: _ :: _ :: tl)).take2⟩
  · have g3 : decide (age ≤ (was : Int)) = false := h1
    have HO := hid hO
    clear hO
    go_enter Try.func64, Try.ntmps64
    go_wp2_with fail
    refine (num_any age w).mono ?_
    rintro e w1 ⟨v1, rfl, ho1, hb1⟩
    obtain ⟨a1, c1, rfl⟩ := ho1.written HNn.out
    have S1 := S.grow hb1
    have hL2 := slLoad_any S1 hf hw
    rw [HO.out] at hL2
    have HL2 := hid hL2
    clear ho1 hb1 hL2
    go_wp2_with fail
    refine HL2.out.mono ?_
    rintro e w2 ⟨a2, c2, rfl, -, -, -, S2⟩
    simp only [picA, Option.isSome_some]
    have S3 := S2.tail
    clear S2
    go_wp2_with fail
    refine (num_any age w2).mono ?_
    rintro e w4 ⟨v4, rfl, ho4, hb4⟩
    obtain ⟨a4, c4, rfl⟩ := ho4.written HNn.out
    have S4 := (S3.bytes ho4 hb4).rot
    clear ho4 hb4
    have hm5 := atG_lit eSok w4 [⟨a4, nn, c4, codeNum age⟩, ⟨a, n, cap, l⟩] #[.slice a4 nn c4, .slice a n cap] rfl (by simp [maxLen])
    have HM5 := hid hm5
    have HOk : Hid (∀ (o : Obj) (x : BS), x ∈ ([⟨a4, nn, c4, codeNum age⟩, ⟨a, n, cap, l⟩] : List BS) → BS.Ok (w4.alloc o) x) := by
      intro o x hx
      have S5 := S4.alloc o
      have q1 := S5.slA 0 rfl
      simp at hx
      rcases hx with rfl | rfl
      · exact ⟨q1.1, q1.2.1, q1.2.2.2.1, q1.2.2.2.2⟩
      · exact ⟨HN.out, hcap, HNil.out, HA.out _ [_, _, _] S5⟩
    clear hm5
    go_wp2_with fail
    refine (concat_any _ _ 2 _ _ rfl (by omega) (by exact HM5.out) (by exact HOk.out _) (nn + n) (by simp [total]) (by omega) (by omega)).mono ?_
    rintro e w5 ⟨a5, c5, rfl, ho5, hb5⟩
    have S5 : St w0 w5 (bytesT (.slice a5 (nn + n) c5) (codeNum age ++ l) :: bytesT (.slice a4 nn c4) (codeNum age) :: cellsT g 97 (slotC pd fr sz) :: diskT pd d :: tl) := by
      have := ((S4.alloc _).bytes ho5 hb5).rot
      simpa using this
    have hs5 := S5.slA 0 rfl
    clear ho5 hb5
    go_wp2_with fail
    refine (frPut_any a5 (codeNum age ++ l) (nn + n) c5 w5 hs5.1 (by unfold maxLen; omega) hs5.2.1 hs5.2.2.2.1 (by exact hs5.2.2.2.2)).mono ?_
    rintro e w6 ⟨a6, c6, rfl, ho6, hb6⟩
    rw [HF.out, HFl.out] at ho6 ⊢
    have S6 : St w0 w6 (cellsT g 97 (slotC pd fr sz) :: diskT pd d :: bytesT (.slice a6 f c6) F :: tl) := ((S5.tail.tail.bytes ho6 hb6).rot.front 2 rfl).front 2 rfl
    clear ho6 hb6
    have z6 := S6.cell 0 rfl 2 rfl
    by_cases hf0 : f = 0
    · have g1 : ((f : Int) == 0) = true := by rw [hf0]; rfl
      have HR2 : Hid ((3, d) = R) := by rw [Hid, ← HR.out, if_neg h0, if_neg h1', if_pos (.inl hf0)]
      clear hf0
      go_wp2
      go_ret
      rw [← HR2.out]
      exact ⟨rfl, S6.take2⟩
    have g1 : ((f : Int) == 0) = false := by simpa using hf0
    by_cases hf1 : sz < f
    · have g2 : decide ((sz : Int) < (f : Int)) = true := decide_eq_true (by omega)
      have g2n : decide (sz < f) = true := decide_eq_true hf1
      have HR2 : Hid ((3, d) = R) := by rw [Hid, ← HR.out, if_neg h0, if_neg h1', if_pos (.inr hf1)]
      clear hf0 hf1
      go_wp2
      go_ret
      rw [← HR2.out]
      exact ⟨rfl, S6.take2⟩
    have g2 : decide ((sz : Int) < (f : Int)) = false := decide_eq_false (by omega)
    have g2n : decide (sz < f) = false := decide_eq_false hf1
    have HR2 := HR.out
    rw [if_neg h0, if_neg h1', if_neg (by omega)] at HR2
    have HR3 := hid HR2
    clear HR2
    have sn := newest_three (pic (piece d.bytes (fr + 0 * sz) sz)) (pic (piece d.bytes (fr + 1 * sz) sz))
    have HNw := newest_any S6 hf hw
    obtain ⟨nw, hnw⟩ : ∃ nw, newestI (pic (piece d.bytes (fr + 0 * sz) sz)) (pic (piece d.bytes (fr + 1 * sz) sz)) = nw := ⟨_, rfl⟩
    rw [hnw] at sn HNw HR3
    have HNW := hid HNw
    clear HNw hnw
    go_wp2_with fail
    refine HNW.out.mono ?_
    rintro e w7 ⟨rfl, S7⟩
    clear HNW HR HOk HM5 S4 S5 S6
    rcases sn with rfl | rfl | rfl
    · obtain ⟨j, hj⟩ : ∃ j : Nat, 0 = j := ⟨_, rfl⟩
      have HR4 : Hid ((0, ((d.write ((fr + j * sz : Nat) : Int) (List.replicate sz 0)).sync).write ((fr + j * sz : Nat) : Int) F) = R) := by rw [Hid, ← HR3.out, ← hj]; rfl
      have hpl := place_any S7 j (by omega) (by omega)
      have hj1 : j ≤ 1 := by omega
      rw [show (j : Int) = 0 by omega] at hpl
      have HPl := hid hpl
      clear hpl hj HR3
      go_wp2_with fail
      refine HPl.out.mono ?_
      rintro e w8 ⟨rfl, S8⟩
      clear HPl
      obtain ⟨p0, hp0⟩ : ∃ p0, fr + j * sz = p0 := ⟨_, rfl⟩
      have hpb : p0 + sz ≤ d.lasts.length := by
        have : j * sz ≤ 1 * sz := Nat.mul_le_mul_right sz hj1
        omega
      rw [hp0] at HR4 ⊢
      clear hp0
      have HC : Hid (∀ w', St w0 w' (cellsT g 97 (slotC pd fr sz) :: diskT pd d :: bytesT (.slice a6 f c6) F :: tl) → w'.cell? ⟨g, 0, none⟩ = some pd ∧ w'.cell? ⟨g, 2, none⟩ = some (.int .i64 (sz : Int))) := fun w' S' => ⟨S'.cell 0 rfl 0 rfl, S'.cell 0 rfl 2 rfl⟩
      have c1 : d.can ((p0 : Nat) : Int) sz = 0 := by rw [DSt.can_code, DSt.code, if_neg (by omega), if_neg (by omega)]
      have HC1 := hid c1
      clear c1
      go_wp2_with fail
      refine wp_region_held_drew (S := (fun w' => w'.cell? ⟨g, 0, none⟩ = some pd ∧ w'.cell? ⟨g, 2, none⟩ = some (.int .i64 (sz : Int)))) (by kernel_rfl) (by exact HC.out _ S8.drew) (fun hHeld => ?_)
      change wpAnyH _ _ _ _ _ 11 (Array.replicate 11 false) _ _
      refine wpAnyH_take (i := 0) (v := ?v34) (ops_at rfl) (by kernel_rfl) (by kernel_rfl) (by kernel_rfl) (fun _ _ _ h => h) (Or.inl ⟨by rfl, ?hy34⟩) (by assumption) ?rest34
      case hy34 => intro w' hSw; (try dsimp only at hSw); go_simp; try with_reducible rfl
      try simp only [Act.put, List.setIfInBounds_toArray, List.set_cons_zero, List.set_cons_succ]
      refine wpAnyH_take (i := 1) (v := ?v35) (ops_at rfl) (by kernel_rfl) (by kernel_rfl) (by kernel_rfl) (fun _ _ _ h => h) (Or.inl ⟨by rfl, ?hy35⟩) (by assumption) ?rest35
      case hy35 => intro w' hSw; (try dsimp only at hSw); go_simp; try with_reducible rfl
      try simp only [Act.put, List.setIfInBounds_toArray, List.set_cons_zero, List.set_cons_succ]
      refine wpAnyH_take (i := 2) (v := ?v36) (ops_at rfl) (by kernel_rfl) (by kernel_rfl) (by kernel_rfl) (fun _ _ _ h => h) (Or.inl ⟨by rfl, ?hy36⟩) (by assumption) ?rest36
      case hy36 => intro w' hSw; (try dsimp only at hSw); go_simp; try with_reducible rfl
      try simp only [Act.put, List.setIfInBounds_toArray, List.set_cons_zero, List.set_cons_succ]
      refine wpAnyH_take (i := 3) (v := ?v37) (ops_at rfl) (by kernel_rfl) (by kernel_rfl) (by kernel_rfl) (fun _ _ _ h => h) (Or.inl ⟨by rfl, ?hy37⟩) (by assumption) ?rest37
      case hy37 => intro w' hSw; (try dsimp only at hSw); go_simp; try with_reducible rfl
      try simp only [Act.put, List.setIfInBounds_toArray, List.set_cons_zero, List.set_cons_succ]
      refine wpAnyH_take (i := 4) (v := ?v38) (ops_at rfl) (by kernel_rfl) (by kernel_rfl) (by kernel_rfl) (fun _ _ _ h => h) (Or.inl ⟨by rfl, ?hy38⟩) (by assumption) ?rest38
      case hy38 => intro w' hSw; (try dsimp only at hSw); go_simp; try with_reducible rfl
      try simp only [Act.put, List.setIfInBounds_toArray, List.set_cons_zero, List.set_cons_succ]
      refine wpAnyH_take (i := 5) (v := ?v39) (ops_at rfl) (by kernel_rfl) (by kernel_rfl) (by kernel_rfl) (fun _ _ _ h => h) (Or.inl ⟨by rfl, ?hy39⟩) (by assumption) ?rest39
      case hy39 => intro w' hSw; (try dsimp only at hSw); go_simp; try with_reducible rfl
      try simp only [Act.put, List.setIfInBounds_toArray, List.set_cons_zero, List.set_cons_succ]
      refine wpAnyH_take (i := 6) (v := ?v40) (ops_at rfl) (by kernel_rfl) (by kernel_rfl) (by kernel_rfl) (fun _ _ _ h => h) (Or.inl ⟨by rfl, ?hy40⟩) (by assumption) ?rest40
      case hy40 => intro w' hSw; (try dsimp only at hSw); go_simp; try with_reducible rfl
      try simp only [Act.put, List.setIfInBounds_toArray, List.set_cons_zero, List.set_cons_succ]
      refine wpAnyH_take (i := 7) (v := ?v41) (ops_at rfl) (by kernel_rfl) (by kernel_rfl) (by kernel_rfl) (fun _ _ _ h => h) (Or.inl ⟨by rfl, ?hy41⟩) (by assumption) ?rest41
      case hy41 => intro w' hSw; (try dsimp only at hSw); go_simp; try with_reducible rfl
      try simp only [Act.put, List.setIfInBounds_toArray, List.set_cons_zero, List.set_cons_succ]
      refine wpAnyH_take (i := 8) (v := ?v42) (ops_at rfl) (by kernel_rfl) (by kernel_rfl) (by kernel_rfl) (fun _ _ _ h => h) (Or.inl ⟨by rfl, ?hy42⟩) (by assumption) ?rest42
      case hy42 => intro w' hSw; (try dsimp only at hSw); go_simp; try with_reducible rfl
      try simp only [Act.put, List.setIfInBounds_toArray, List.set_cons_zero, List.set_cons_succ]
      refine wpAnyH_ready (rs := [9]) (by kernel_rfl) (by simp) ?_
      refine AllReadyH.cons (ops_at rfl) (fun K hK => ?_) AllReadyH.nil
      refine step_make2 (by rfl) (.tmp 68) (.tmp 68) 27 rfl _ _ rfl rfl (run_make _ sz (by omega)) ?_
      rintro v9 w9 ⟨rfl, ho9, hb9⟩
      have S9 := (S8.drew.bytes ho9 hb9).rot
      clear ho9 hb9
      refine hK.out _ _ (by exact HC.out _ S9.tail) (fun hHeld => ?_)
      clear hK K
      try simp only [Act.put, List.setIfInBounds_toArray, List.set_cons_zero, List.set_cons_succ]
      refine wpAnyH_ready (rs := [10]) (by kernel_rfl) (by simp) ?_
      refine AllReadyH.cons (ops_at rfl) (fun K hK => ?_) AllReadyH.nil
      go_simp
      refine (hwrite (by exact S9) 2 rfl _ _ (List.replicate sz 0) sz sz 0 HC1.out (by simp) (by omega) (by omega) (fun e => by cases e) (by exact S9.at 0 rfl)).mono ?_
      rintro e w10 ⟨rfl, S10⟩
      have S10t : St w0 w10 (cellsT g 97 (slotC pd fr sz) :: diskT pd (d.write (p0 : Int) (List.replicate sz 0)) :: bytesT (.slice a6 f c6) F :: tl) := S10.tail
      refine hK.out _ _ (by exact ⟨S10t.cell 0 rfl 0 rfl, S10t.cell 0 rfl 2 rfl⟩) (fun hHeld => ?_)
      clear hK K
      try simp only [Act.put, List.setIfInBounds_toArray, List.set_cons_zero, List.set_cons_succ]
      refine wpAnyH_done (by kernel_rfl) ?_ _
      have x10 := S10t.cell 0 rfl 0 rfl
      go_wp2_with fail
      refine (hsync S10t 1 rfl (Nat.le_trans (DSt.write_waits _ _ _) (by omega)) (by rw [DSt.write_syncs]; omega)).mono ?_
      rintro e w11 ⟨rfl, S11⟩
      have S11t : St w0 w11 (cellsT g 97 (slotC pd fr sz) :: diskT pd (d.write (p0 : Int) (List.replicate sz 0)).sync :: bytesT (.slice a6 f c6) F :: tl) := S11
      have x11 := S11t.cell 0 rfl 0 rfl
      have hl11 : (d.write (p0 : Int) (List.replicate sz 0)).sync.lasts.length = d.lasts.length := by
        show (dDone _ _ _).length = _
        rw [dDone_len _ _ _ (fit_write (S8.disk 1 rfl).1 (by rw [List.length_replicate]; exact hpb)), DSt.write_lasts]
      have HC2 : Hid ((d.write (p0 : Int) (List.replicate sz 0)).sync.can (p0 : Int) f = 0) := by rw [Hid, DSt.can_code, DSt.code, hl11, if_neg (by omega), if_neg (by omega)]
      have hs6 := S11t.slA 2 rfl
      clear hl11
      go_wp2_with fail
      refine (hwrite (by exact S11t) 1 rfl _ a6 F f c6 0 HC2.out HFl.out (by omega) (by rw [(sync_waits _).1]; simp) hs6.2.2.2.1 (by exact hs6.2.2.2.2)).mono ?_
      rintro e w12 ⟨rfl, S12⟩
      go_wp2
      go_ret
      rw [← HR4.out]
      exact ⟨rfl, (S12 : St w0 w12 (_ :: _ :: _ :: tl)).take2⟩
    · obtain ⟨j, hj⟩ : ∃ j : Nat, 1 = j := ⟨_, rfl⟩
      have HR4 : Hid ((0, ((d.write ((fr + j * sz : Nat) : Int) (List.replicate sz 0)).sync).write ((fr + j * sz : Nat) : Int) F) = R) := by rw [Hid, ← HR3.out, ← hj]; rfl
      have hpl := place_any S7 j (by omega) (by omega)
      have hj1 : j ≤ 1 := by omega
      rw [show (j : Int) = 1 by omega] at hpl
      have HPl := hid hpl
      clear hpl hj HR3
      go_wp2_with fail
      refine HPl.out.mono ?_
      rintro e w8 ⟨rfl, S8⟩
      clear HPl
      obtain ⟨p0, hp0⟩ : ∃ p0, fr + j * sz = p0 := ⟨_, rfl⟩
      have hpb : p0 + sz ≤ d.lasts.length := by
        have : j * sz ≤ 1 * sz := Nat.mul_le_mul_right sz hj1
        omega
      rw [hp0] at HR4 ⊢
      clear hp0
      have HC : Hid (∀ w', St w0 w' (cellsT g 97 (slotC pd fr sz) :: diskT pd d :: bytesT (.slice a6 f c6) F :: tl) → w'.cell? ⟨g, 0, none⟩ = some pd ∧ w'.cell? ⟨g, 2, none⟩ = some (.int .i64 (sz : Int))) := fun w' S' => ⟨S'.cell 0 rfl 0 rfl, S'.cell 0 rfl 2 rfl⟩
      have c1 : d.can ((p0 : Nat) : Int) sz = 0 := by rw [DSt.can_code, DSt.code, if_neg (by omega), if_neg (by omega)]
      have HC1 := hid c1
      clear c1
      go_wp2_with fail
      refine wp_region_held_drew (S := (fun w' => w'.cell? ⟨g, 0, none⟩ = some pd ∧ w'.cell? ⟨g, 2, none⟩ = some (.int .i64 (sz : Int)))) (by kernel_rfl) (by exact HC.out _ S8.drew) (fun hHeld => ?_)
      change wpAnyH _ _ _ _ _ 11 (Array.replicate 11 false) _ _
      refine wpAnyH_take (i := 0) (v := ?v45) (ops_at rfl) (by kernel_rfl) (by kernel_rfl) (by kernel_rfl) (fun _ _ _ h => h) (Or.inl ⟨by rfl, ?hy45⟩) (by assumption) ?rest45
      case hy45 => intro w' hSw; (try dsimp only at hSw); go_simp; try with_reducible rfl
      try simp only [Act.put, List.setIfInBounds_toArray, List.set_cons_zero, List.set_cons_succ]
      refine wpAnyH_take (i := 1) (v := ?v46) (ops_at rfl) (by kernel_rfl) (by kernel_rfl) (by kernel_rfl) (fun _ _ _ h => h) (Or.inl ⟨by rfl, ?hy46⟩) (by assumption) ?rest46
      case hy46 => intro w' hSw; (try dsimp only at hSw); go_simp; try with_reducible rfl
      try simp only [Act.put, List.setIfInBounds_toArray, List.set_cons_zero, List.set_cons_succ]
      refine wpAnyH_take (i := 2) (v := ?v47) (ops_at rfl) (by kernel_rfl) (by kernel_rfl) (by kernel_rfl) (fun _ _ _ h => h) (Or.inl ⟨by rfl, ?hy47⟩) (by assumption) ?rest47
      case hy47 => intro w' hSw; (try dsimp only at hSw); go_simp; try with_reducible rfl
      try simp only [Act.put, List.setIfInBounds_toArray, List.set_cons_zero, List.set_cons_succ]
      refine wpAnyH_take (i := 3) (v := ?v48) (ops_at rfl) (by kernel_rfl) (by kernel_rfl) (by kernel_rfl) (fun _ _ _ h => h) (Or.inl ⟨by rfl, ?hy48⟩) (by assumption) ?rest48
      case hy48 => intro w' hSw; (try dsimp only at hSw); go_simp; try with_reducible rfl
      try simp only [Act.put, List.setIfInBounds_toArray, List.set_cons_zero, List.set_cons_succ]
      refine wpAnyH_take (i := 4) (v := ?v49) (ops_at rfl) (by kernel_rfl) (by kernel_rfl) (by kernel_rfl) (fun _ _ _ h => h) (Or.inl ⟨by rfl, ?hy49⟩) (by assumption) ?rest49
      case hy49 => intro w' hSw; (try dsimp only at hSw); go_simp; try with_reducible rfl
      try simp only [Act.put, List.setIfInBounds_toArray, List.set_cons_zero, List.set_cons_succ]
      refine wpAnyH_take (i := 5) (v := ?v50) (ops_at rfl) (by kernel_rfl) (by kernel_rfl) (by kernel_rfl) (fun _ _ _ h => h) (Or.inl ⟨by rfl, ?hy50⟩) (by assumption) ?rest50
      case hy50 => intro w' hSw; (try dsimp only at hSw); go_simp; try with_reducible rfl
      try simp only [Act.put, List.setIfInBounds_toArray, List.set_cons_zero, List.set_cons_succ]
      refine wpAnyH_take (i := 6) (v := ?v51) (ops_at rfl) (by kernel_rfl) (by kernel_rfl) (by kernel_rfl) (fun _ _ _ h => h) (Or.inl ⟨by rfl, ?hy51⟩) (by assumption) ?rest51
      case hy51 => intro w' hSw; (try dsimp only at hSw); go_simp; try with_reducible rfl
      try simp only [Act.put, List.setIfInBounds_toArray, List.set_cons_zero, List.set_cons_succ]
      refine wpAnyH_take (i := 7) (v := ?v52) (ops_at rfl) (by kernel_rfl) (by kernel_rfl) (by kernel_rfl) (fun _ _ _ h => h) (Or.inl ⟨by rfl, ?hy52⟩) (by assumption) ?rest52
      case hy52 => intro w' hSw; (try dsimp only at hSw); go_simp; try with_reducible rfl
      try simp only [Act.put, List.setIfInBounds_toArray, List.set_cons_zero, List.set_cons_succ]
      refine wpAnyH_take (i := 8) (v := ?v53) (ops_at rfl) (by kernel_rfl) (by kernel_rfl) (by kernel_rfl) (fun _ _ _ h => h) (Or.inl ⟨by rfl, ?hy53⟩) (by assumption) ?rest53
      case hy53 => intro w' hSw; (try dsimp only at hSw); go_simp; try with_reducible rfl
      try simp only [Act.put, List.setIfInBounds_toArray, List.set_cons_zero, List.set_cons_succ]
      refine wpAnyH_ready (rs := [9]) (by kernel_rfl) (by simp) ?_
      refine AllReadyH.cons (ops_at rfl) (fun K hK => ?_) AllReadyH.nil
      refine step_make2 (by rfl) (.tmp 68) (.tmp 68) 27 rfl _ _ rfl rfl (run_make _ sz (by omega)) ?_
      rintro v9 w9 ⟨rfl, ho9, hb9⟩
      have S9 := (S8.drew.bytes ho9 hb9).rot
      clear ho9 hb9
      refine hK.out _ _ (by exact HC.out _ S9.tail) (fun hHeld => ?_)
      clear hK K
      try simp only [Act.put, List.setIfInBounds_toArray, List.set_cons_zero, List.set_cons_succ]
      refine wpAnyH_ready (rs := [10]) (by kernel_rfl) (by simp) ?_
      refine AllReadyH.cons (ops_at rfl) (fun K hK => ?_) AllReadyH.nil
      go_simp
      refine (hwrite (by exact S9) 2 rfl _ _ (List.replicate sz 0) sz sz 0 HC1.out (by simp) (by omega) (by omega) (fun e => by cases e) (by exact S9.at 0 rfl)).mono ?_
      rintro e w10 ⟨rfl, S10⟩
      have S10t : St w0 w10 (cellsT g 97 (slotC pd fr sz) :: diskT pd (d.write (p0 : Int) (List.replicate sz 0)) :: bytesT (.slice a6 f c6) F :: tl) := S10.tail
      refine hK.out _ _ (by exact ⟨S10t.cell 0 rfl 0 rfl, S10t.cell 0 rfl 2 rfl⟩) (fun hHeld => ?_)
      clear hK K
      try simp only [Act.put, List.setIfInBounds_toArray, List.set_cons_zero, List.set_cons_succ]
      refine wpAnyH_done (by kernel_rfl) ?_ _
      have x10 := S10t.cell 0 rfl 0 rfl
      go_wp2_with fail
      refine (hsync S10t 1 rfl (Nat.le_trans (DSt.write_waits _ _ _) (by omega)) (by rw [DSt.write_syncs]; omega)).mono ?_
      rintro e w11 ⟨rfl, S11⟩
      have S11t : St w0 w11 (cellsT g 97 (slotC pd fr sz) :: diskT pd (d.write (p0 : Int) (List.replicate sz 0)).sync :: bytesT (.slice a6 f c6) F :: tl) := S11
      have x11 := S11t.cell 0 rfl 0 rfl
      have hl11 : (d.write (p0 : Int) (List.replicate sz 0)).sync.lasts.length = d.lasts.length := by
        show (dDone _ _ _).length = _
        rw [dDone_len _ _ _ (fit_write (S8.disk 1 rfl).1 (by rw [List.length_replicate]; exact hpb)), DSt.write_lasts]
      have HC2 : Hid ((d.write (p0 : Int) (List.replicate sz 0)).sync.can (p0 : Int) f = 0) := by rw [Hid, DSt.can_code, DSt.code, hl11, if_neg (by omega), if_neg (by omega)]
      have hs6 := S11t.slA 2 rfl
      clear hl11
      go_wp2_with fail
      refine (hwrite (by exact S11t) 1 rfl _ a6 F f c6 0 HC2.out HFl.out (by omega) (by rw [(sync_waits _).1]; simp) hs6.2.2.2.1 (by exact hs6.2.2.2.2)).mono ?_
      rintro e w12 ⟨rfl, S12⟩
      go_wp2
      go_ret
      rw [← HR4.out]
      exact ⟨rfl, (S12 : St w0 w12 (_ :: _ :: _ :: tl)).take2⟩
    · obtain ⟨j, hj⟩ : ∃ j : Nat, 0 = j := ⟨_, rfl⟩
      have HR4 : Hid ((0, ((d.write ((fr + j * sz : Nat) : Int) (List.replicate sz 0)).sync).write ((fr + j * sz : Nat) : Int) F) = R) := by rw [Hid, ← HR3.out, ← hj]; rfl
      have hpl := place_any S7 j (by omega) (by omega)
      have hj1 : j ≤ 1 := by omega
      rw [show (j : Int) = 0 by omega] at hpl
      have HPl := hid hpl
      clear hpl hj HR3
      go_wp2_with fail
      refine HPl.out.mono ?_
      rintro e w8 ⟨rfl, S8⟩
      clear HPl
      obtain ⟨p0, hp0⟩ : ∃ p0, fr + j * sz = p0 := ⟨_, rfl⟩
      have hpb : p0 + sz ≤ d.lasts.length := by
        have : j * sz ≤ 1 * sz := Nat.mul_le_mul_right sz hj1
        omega
      rw [hp0] at HR4 ⊢
      clear hp0
      have HC : Hid (∀ w', St w0 w' (cellsT g 97 (slotC pd fr sz) :: diskT pd d :: bytesT (.slice a6 f c6) F :: tl) → w'.cell? ⟨g, 0, none⟩ = some pd ∧ w'.cell? ⟨g, 2, none⟩ = some (.int .i64 (sz : Int))) := fun w' S' => ⟨S'.cell 0 rfl 0 rfl, S'.cell 0 rfl 2 rfl⟩
      have c1 : d.can ((p0 : Nat) : Int) sz = 0 := by rw [DSt.can_code, DSt.code, if_neg (by omega), if_neg (by omega)]
      have HC1 := hid c1
      clear c1
      go_wp2_with fail
      refine wp_region_held_drew (S := (fun w' => w'.cell? ⟨g, 0, none⟩ = some pd ∧ w'.cell? ⟨g, 2, none⟩ = some (.int .i64 (sz : Int)))) (by kernel_rfl) (by exact HC.out _ S8.drew) (fun hHeld => ?_)
      change wpAnyH _ _ _ _ _ 11 (Array.replicate 11 false) _ _
      refine wpAnyH_take (i := 0) (v := ?v56) (ops_at rfl) (by kernel_rfl) (by kernel_rfl) (by kernel_rfl) (fun _ _ _ h => h) (Or.inl ⟨by rfl, ?hy56⟩) (by assumption) ?rest56
      case hy56 => intro w' hSw; (try dsimp only at hSw); go_simp; try with_reducible rfl
      try simp only [Act.put, List.setIfInBounds_toArray, List.set_cons_zero, List.set_cons_succ]
      refine wpAnyH_take (i := 1) (v := ?v57) (ops_at rfl) (by kernel_rfl) (by kernel_rfl) (by kernel_rfl) (fun _ _ _ h => h) (Or.inl ⟨by rfl, ?hy57⟩) (by assumption) ?rest57
      case hy57 => intro w' hSw; (try dsimp only at hSw); go_simp; try with_reducible rfl
      try simp only [Act.put, List.setIfInBounds_toArray, List.set_cons_zero, List.set_cons_succ]
      refine wpAnyH_take (i := 2) (v := ?v58) (ops_at rfl) (by kernel_rfl) (by kernel_rfl) (by kernel_rfl) (fun _ _ _ h => h) (Or.inl ⟨by rfl, ?hy58⟩) (by assumption) ?rest58
      case hy58 => intro w' hSw; (try dsimp only at hSw); go_simp; try with_reducible rfl
      try simp only [Act.put, List.setIfInBounds_toArray, List.set_cons_zero, List.set_cons_succ]
      refine wpAnyH_take (i := 3) (v := ?v59) (ops_at rfl) (by kernel_rfl) (by kernel_rfl) (by kernel_rfl) (fun _ _ _ h => h) (Or.inl ⟨by rfl, ?hy59⟩) (by assumption) ?rest59
      case hy59 => intro w' hSw; (try dsimp only at hSw); go_simp; try with_reducible rfl
      try simp only [Act.put, List.setIfInBounds_toArray, List.set_cons_zero, List.set_cons_succ]
      refine wpAnyH_take (i := 4) (v := ?v60) (ops_at rfl) (by kernel_rfl) (by kernel_rfl) (by kernel_rfl) (fun _ _ _ h => h) (Or.inl ⟨by rfl, ?hy60⟩) (by assumption) ?rest60
      case hy60 => intro w' hSw; (try dsimp only at hSw); go_simp; try with_reducible rfl
      try simp only [Act.put, List.setIfInBounds_toArray, List.set_cons_zero, List.set_cons_succ]
      refine wpAnyH_take (i := 5) (v := ?v61) (ops_at rfl) (by kernel_rfl) (by kernel_rfl) (by kernel_rfl) (fun _ _ _ h => h) (Or.inl ⟨by rfl, ?hy61⟩) (by assumption) ?rest61
      case hy61 => intro w' hSw; (try dsimp only at hSw); go_simp; try with_reducible rfl
      try simp only [Act.put, List.setIfInBounds_toArray, List.set_cons_zero, List.set_cons_succ]
      refine wpAnyH_take (i := 6) (v := ?v62) (ops_at rfl) (by kernel_rfl) (by kernel_rfl) (by kernel_rfl) (fun _ _ _ h => h) (Or.inl ⟨by rfl, ?hy62⟩) (by assumption) ?rest62
      case hy62 => intro w' hSw; (try dsimp only at hSw); go_simp; try with_reducible rfl
      try simp only [Act.put, List.setIfInBounds_toArray, List.set_cons_zero, List.set_cons_succ]
      refine wpAnyH_take (i := 7) (v := ?v63) (ops_at rfl) (by kernel_rfl) (by kernel_rfl) (by kernel_rfl) (fun _ _ _ h => h) (Or.inl ⟨by rfl, ?hy63⟩) (by assumption) ?rest63
      case hy63 => intro w' hSw; (try dsimp only at hSw); go_simp; try with_reducible rfl
      try simp only [Act.put, List.setIfInBounds_toArray, List.set_cons_zero, List.set_cons_succ]
      refine wpAnyH_take (i := 8) (v := ?v64) (ops_at rfl) (by kernel_rfl) (by kernel_rfl) (by kernel_rfl) (fun _ _ _ h => h) (Or.inl ⟨by rfl, ?hy64⟩) (by assumption) ?rest64
      case hy64 => intro w' hSw; (try dsimp only at hSw); go_simp; try with_reducible rfl
      try simp only [Act.put, List.setIfInBounds_toArray, List.set_cons_zero, List.set_cons_succ]
      refine wpAnyH_ready (rs := [9]) (by kernel_rfl) (by simp) ?_
      refine AllReadyH.cons (ops_at rfl) (fun K hK => ?_) AllReadyH.nil
      refine step_make2 (by rfl) (.tmp 68) (.tmp 68) 27 rfl _ _ rfl rfl (run_make _ sz (by omega)) ?_
      rintro v9 w9 ⟨rfl, ho9, hb9⟩
      have S9 := (S8.drew.bytes ho9 hb9).rot
      clear ho9 hb9
      refine hK.out _ _ (by exact HC.out _ S9.tail) (fun hHeld => ?_)
      clear hK K
      try simp only [Act.put, List.setIfInBounds_toArray, List.set_cons_zero, List.set_cons_succ]
      refine wpAnyH_ready (rs := [10]) (by kernel_rfl) (by simp) ?_
      refine AllReadyH.cons (ops_at rfl) (fun K hK => ?_) AllReadyH.nil
      go_simp
      refine (hwrite (by exact S9) 2 rfl _ _ (List.replicate sz 0) sz sz 0 HC1.out (by simp) (by omega) (by omega) (fun e => by cases e) (by exact S9.at 0 rfl)).mono ?_
      rintro e w10 ⟨rfl, S10⟩
      have S10t : St w0 w10 (cellsT g 97 (slotC pd fr sz) :: diskT pd (d.write (p0 : Int) (List.replicate sz 0)) :: bytesT (.slice a6 f c6) F :: tl) := S10.tail
      refine hK.out _ _ (by exact ⟨S10t.cell 0 rfl 0 rfl, S10t.cell 0 rfl 2 rfl⟩) (fun hHeld => ?_)
      clear hK K
      try simp only [Act.put, List.setIfInBounds_toArray, List.set_cons_zero, List.set_cons_succ]
      refine wpAnyH_done (by kernel_rfl) ?_ _
      have x10 := S10t.cell 0 rfl 0 rfl
      go_wp2_with fail
      refine (hsync S10t 1 rfl (Nat.le_trans (DSt.write_waits _ _ _) (by omega)) (by rw [DSt.write_syncs]; omega)).mono ?_
      rintro e w11 ⟨rfl, S11⟩
      have S11t : St w0 w11 (cellsT g 97 (slotC pd fr sz) :: diskT pd (d.write (p0 : Int) (List.replicate sz 0)).sync :: bytesT (.slice a6 f c6) F :: tl) := S11
      have x11 := S11t.cell 0 rfl 0 rfl
      have hl11 : (d.write (p0 : Int) (List.replicate sz 0)).sync.lasts.length = d.lasts.length := by
        show (dDone _ _ _).length = _
        rw [dDone_len _ _ _ (fit_write (S8.disk 1 rfl).1 (by rw [List.length_replicate]; exact hpb)), DSt.write_lasts]
      have HC2 : Hid ((d.write (p0 : Int) (List.replicate sz 0)).sync.can (p0 : Int) f = 0) := by rw [Hid, DSt.can_code, DSt.code, hl11, if_neg (by omega), if_neg (by omega)]
      have hs6 := S11t.slA 2 rfl
      clear hl11
      go_wp2_with fail
      refine (hwrite (by exact S11t) 1 rfl _ a6 F f c6 0 HC2.out HFl.out (by omega) (by rw [(sync_waits _).1]; simp) hs6.2.2.2.1 (by exact hs6.2.2.2.2)).mono ?_
      rintro e w12 ⟨rfl, S12⟩
      go_wp2
      go_ret
      rw [← HR4.out]
      exact ⟨rfl, (S12 : St w0 w12 (_ :: _ :: _ :: tl)).take2⟩
end

end Go.Proofs.Ytmfbbonppmhabaa
