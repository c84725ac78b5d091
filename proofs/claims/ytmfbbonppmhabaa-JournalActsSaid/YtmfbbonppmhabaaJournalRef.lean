/- The document's journal (dunnageref07): Start, Append. -/
import Derived.Test.YtmfbbonppmhabaaSlotsRef3
import Derived.Test.YtmfbbonppmhabaaLogRef2
namespace Go.Proofs.Ytmfbbonppmhabaa
set_option linter.unusedVariables false
set_option linter.unusedSimpArgs false
open Go.RowKit
/-- A document's journal as it lies. -/
def rjC (ps pl : Value) (cnt age : Int) : List Value := [ps, pl, .int .i64 cnt, .int .i64 age]
/-- What the document's Start answers and leaves. -/
def rjStart (fr sz : Nat) (r : RD) (ps : List (List UInt8)) (cnt : Int) (l : List UInt8) : Int × RD × List (List UInt8) × Int :=
  if l.length < 1 ∨ 3900 < l.length then (1, r, ps, cnt)
  else ((rlogPut fr sz r ps (codeNum cnt ++ l)).1, (rlogPut fr sz r ps (codeNum cnt ++ l)).2.1, (rlogPut fr sz r ps (codeNum cnt ++ l)).2.2, if (rlogPut fr sz r ps (codeNum cnt ++ l)).1 = 0 then cnt + 1 else cnt)
section
variable {w0 w : World} {tl : List Thing} {gm gs gl : Nat} {pr : Value} {cnt age : Int} {fr sz : Nat} {r : RD} {xs : List BS}
def RJPost (w0 : World) (tl : List Thing) (pr : Value) (gm gs gl fr sz : Nat) (age : Int) (R : Int × RD × List (List UInt8) × Int) (e : Ending) (w' : World) : Prop :=
  ∃ ys aY cY, e = .returned (.int .i64 R.1) ∧ ys.map BS.l = R.2.2.1 ∧ (∀ x ∈ ys, BS.Hd x) ∧ St w0 w' (cellsT gm 51 (rjC (.pointer (some ⟨gs, 0, none⟩)) (.pointer (some ⟨gl, 0, none⟩)) (R.2.2.2) age) :: cellsT gl 90 (rlogC pr fr sz (.slice aY ys.length cY)) :: rdT pr R.2.1 :: rowsT eS bsRefs (.slice aY ys.length cY) ys :: tl)
set_option maxRecDepth 10000 in
set_option maxHeartbeats 3200000 in
theorem rjStart_any {aL : Option Addr} {cL : Nat} (S : St w0 w (cellsT gm 51 (rjC (.pointer (some ⟨gs, 0, none⟩)) (.pointer (some ⟨gl, 0, none⟩)) (cnt) age) :: cellsT gl 90 (rlogC pr fr sz (.slice aL xs.length cL)) :: rdT pr r :: rowsT eS bsRefs (.slice aL xs.length cL) xs :: tl)) (a : Option Addr) (l : List UInt8) (n cap : Nat) (hn : l.length = n) (hcap : n ≤ cap) (hnb : n ≤ maxLen) (hA : Reads w0 tl a l)
    (hc : 0 ≤ cnt ∧ cnt ≤ 1000000000) (hhd : ∀ x ∈ xs, BS.Hd x) (hok : ∀ x ∈ xs, x.l.length ≤ 4000) (hu : ((xs.map BS.l).flatMap frameB).length ≤ sz) (hxn : xs.length ≤ 1000000) (hf : fr + sz ≤ 65536) (hps : r.ps.length ≤ 10000000) :
    Calls Try.prog 20 #[(.pointer (some ⟨gm, 0, none⟩)), .slice a n cap] w fun e w' => RJPost w0 tl pr gm gs gl fr sz age (rjStart fr sz r (xs.map BS.l) cnt l) e w' := by
  have HN := hid hn
  have HA := hid hA
  have HHd := hid hhd
  have HOk := hid hok
  have HU := hid hu
  obtain ⟨hc0, hc1⟩ := hc
  clear hn hA hhd hok hu
  by_cases q1 : n < 1
  · have E : Hid (rjStart fr sz r (xs.map BS.l) cnt l = (1, r, xs.map BS.l, cnt)) := by rw [Hid, rjStart, if_pos (.inl (by rw [HN.out]; exact q1))]
    have g0 : decide ((n : Int) < 1) = true := decide_eq_true (by omega)
    have g0n : decide (n < 1) = true := decide_eq_true q1
    go_enter Try.func20, Try.ntmps20
    go_wp2
    go_ret
    rw [E.out]
    exact ⟨xs, aL, cL, rfl, rfl, HHd.out, S⟩
  have g0 : decide ((n : Int) < 1) = false := decide_eq_false (by omega)
  have g0n : decide (n < 1) = false := decide_eq_false q1
  by_cases q2 : 3900 < n
  · have E : Hid (rjStart fr sz r (xs.map BS.l) cnt l = (1, r, xs.map BS.l, cnt)) := by rw [Hid, rjStart, if_pos (.inr (by rw [HN.out]; exact q2))]
    have g1 : decide ((3900 : Int) < (n : Int)) = true := decide_eq_true (by omega)
    have g1n : decide (3900 < n) = true := decide_eq_true q2
    go_enter Try.func20, Try.ntmps20
    go_wp2
    go_ret
    rw [E.out]
    exact ⟨xs, aL, cL, rfl, rfl, HHd.out, S⟩
  have g1 : decide ((3900 : Int) < (n : Int)) = false := decide_eq_false (by omega)
  have g1n : decide (3900 < n) = false := decide_eq_false q2
  have E : Hid (rjStart fr sz r (xs.map BS.l) cnt l = ((rlogPut fr sz r (xs.map BS.l) (codeNum cnt ++ l)).1, (rlogPut fr sz r (xs.map BS.l) (codeNum cnt ++ l)).2.1, (rlogPut fr sz r (xs.map BS.l) (codeNum cnt ++ l)).2.2, if (rlogPut fr sz r (xs.map BS.l) (codeNum cnt ++ l)).1 = 0 then cnt + 1 else cnt)) := by rw [Hid, rjStart, if_neg (by rw [HN.out]; omega)]
  have hcl := codeNum_len cnt
  obtain ⟨nn, hnn⟩ : ∃ nn, (codeNum cnt).length = nn := ⟨_, rfl⟩
  rw [hnn] at hcl
  have HNn := hid hnn
  have hnn2 : Hid ((codeNum cnt).length + n = nn + n) := by rw [Hid, hnn]
  clear hnn
  have keep : ∀ {w' : World} {r : List Thing}, St w0 w' (cellsT gm 51 (rjC (.pointer (some ⟨gs, 0, none⟩)) (.pointer (some ⟨gl, 0, none⟩)) (cnt) age) :: r) → w'.cell? ⟨gm, 1, none⟩ = some (.pointer (some ⟨gl, 0, none⟩)) ∧ w'.cell? ⟨gm, 2, none⟩ = some (.int .i64 cnt) := fun S => ⟨S.cell 0 rfl 1 rfl, S.cell 0 rfl 2 rfl⟩
  go_enter Try.func20, Try.ntmps20
  go_wp2_with fail
  refine wp_region_held_drew (S := (fun w' => w'.cell? ⟨gm, 1, none⟩ = some (.pointer (some ⟨gl, 0, none⟩)) ∧ w'.cell? ⟨gm, 2, none⟩ = some (.int .i64 cnt))) (by kernel_rfl) (by exact keep S.drew) (fun hHeld => ?_)
  change wpAnyH _ _ _ _ _ 13 (Array.replicate 13 false) _ _
  refine wpAnyH_take (i := 0) (v := ?v1) (ops_at rfl) (by kernel_rfl) (by kernel_rfl) (by kernel_rfl) (fun _ _ _ h => h) (Or.inl ⟨by rfl, ?hy1⟩) (by assumption) ?rest1
  case hy1 => intro w' hSw; (try dsimp only at hSw); go_simp; try with_reducible rfl
  try simp only [Act.put, List.setIfInBounds_toArray, List.set_cons_zero, List.set_cons_succ]
  refine wpAnyH_take (i := 1) (v := ?v2) (ops_at rfl) (by kernel_rfl) (by kernel_rfl) (by kernel_rfl) (fun _ _ _ h => h) (Or.inl ⟨by rfl, ?hy2⟩) (by assumption) ?rest2
  case hy2 => intro w' hSw; (try dsimp only at hSw); go_simp; try with_reducible rfl
  try simp only [Act.put, List.setIfInBounds_toArray, List.set_cons_zero, List.set_cons_succ]
  refine wpAnyH_take (i := 2) (v := ?v3) (ops_at rfl) (by kernel_rfl) (by kernel_rfl) (by kernel_rfl) (fun _ _ _ h => h) (Or.inl ⟨by rfl, ?hy3⟩) (by assumption) ?rest3
  case hy3 => intro w' hSw; (try dsimp only at hSw); go_simp; try with_reducible rfl
  try simp only [Act.put, List.setIfInBounds_toArray, List.set_cons_zero, List.set_cons_succ]
  refine wpAnyH_take (i := 3) (v := ?v4) (ops_at rfl) (by kernel_rfl) (by kernel_rfl) (by kernel_rfl) (fun _ _ _ h => h) (Or.inl ⟨by rfl, ?hy4⟩) (by assumption) ?rest4
  case hy4 => intro w' hSw; (try dsimp only at hSw); go_simp; try with_reducible rfl
  try simp only [Act.put, List.setIfInBounds_toArray, List.set_cons_zero, List.set_cons_succ]
  refine wpAnyH_take (i := 4) (v := ?v5) (ops_at rfl) (by kernel_rfl) (by kernel_rfl) (by kernel_rfl) (fun _ _ _ h => h) (Or.inl ⟨by rfl, ?hy5⟩) (by assumption) ?rest5
  case hy5 => intro w' hSw; (try dsimp only at hSw); go_simp; try with_reducible rfl
  try simp only [Act.put, List.setIfInBounds_toArray, List.set_cons_zero, List.set_cons_succ]
  refine wpAnyH_take (i := 5) (v := ?v6) (ops_at rfl) (by kernel_rfl) (by kernel_rfl) (by kernel_rfl) (fun _ _ _ h => h) (Or.inl ⟨by rfl, ?hy6⟩) (by assumption) ?rest6
  case hy6 => intro w' hSw; (try dsimp only at hSw); go_simp; try with_reducible rfl
  try simp only [Act.put, List.setIfInBounds_toArray, List.set_cons_zero, List.set_cons_succ]
  refine wpAnyH_take (i := 6) (v := ?v7) (ops_at rfl) (by kernel_rfl) (by kernel_rfl) (by kernel_rfl) (fun _ _ _ h => h) (Or.inl ⟨by rfl, ?hy7⟩) (by assumption) ?rest7
  case hy7 => intro w' hSw; (try dsimp only at hSw); go_simp; try with_reducible rfl
  try simp only [Act.put, List.setIfInBounds_toArray, List.set_cons_zero, List.set_cons_succ]
  refine wpAnyH_take (i := 7) (v := ?v8) (ops_at rfl) (by kernel_rfl) (by kernel_rfl) (by kernel_rfl) (fun _ _ _ h => h) (Or.inl ⟨by rfl, ?hy8⟩) (by assumption) ?rest8
  case hy8 => intro w' hSw; (try dsimp only at hSw); go_simp; try with_reducible rfl
  try simp only [Act.put, List.setIfInBounds_toArray, List.set_cons_zero, List.set_cons_succ]
  refine wpAnyH_take (i := 9) (v := ?v9) (ops_at rfl) (by kernel_rfl) (by kernel_rfl) (by kernel_rfl) (fun _ _ _ h => h) (Or.inl ⟨by rfl, ?hy9⟩) (by assumption) ?rest9
  case hy9 => intro w' hSw; (try dsimp only at hSw); go_simp; try with_reducible rfl
  try simp only [Act.put, List.setIfInBounds_toArray, List.set_cons_zero, List.set_cons_succ]
  refine wpAnyH_ready (rs := [8]) (by kernel_rfl) (by simp) ?_
  refine AllReadyH.cons (ops_at rfl) (fun K hK => ?_) AllReadyH.nil
  go_simp
  refine (rnum_any cnt _).mono ?_
  rintro e w3 ⟨v3, rfl, ho3, hb3⟩
  obtain ⟨a3, c3, rfl⟩ := ho3.written HNn.out
  have S3 := (S.drew.bytes ho3 hb3).rot
  clear ho3 hb3
  refine hK.out _ _ (by exact keep S3.tail) (fun hHeld => ?_)
  clear hK K
  try simp only [Act.put, List.setIfInBounds_toArray, List.set_cons_zero, List.set_cons_succ]
  refine wpAnyH_ready (rs := [10]) (by kernel_rfl) (by simp) ?_
  refine AllReadyH.cons (ops_at rfl) (fun K hK => ?_) AllReadyH.nil
  refine step_app (by rfl) (.tmp 22) (.tmp 23) 27 27 27 rfl rfl _ _ rfl rfl (S3.app 0 rfl a l n cap HN.out (by exact HA.out _ [_, _, _, _, _] S3) (nn + n) hnn2.out (by omega)) ?_
  rintro v4 w4 ⟨⟨a4, c4, rfl⟩, S4⟩
  have S4' : St w0 w4 (bytesT (.slice a4 (nn + n) c4) (codeNum cnt ++ l) :: cellsT gm 51 (rjC (.pointer (some ⟨gs, 0, none⟩)) (.pointer (some ⟨gl, 0, none⟩)) (cnt) age) :: cellsT gl 90 (rlogC pr fr sz (.slice aL xs.length cL)) :: rdT pr r :: rowsT eS bsRefs (.slice aL xs.length cL) xs :: tl) := S4
  have hs4 := S4'.slA 0 rfl
  have S5 : St w0 w4 (cellsT gl 90 (rlogC pr fr sz (.slice aL xs.length cL)) :: rdT pr r :: rowsT eS bsRefs (.slice aL xs.length cL) xs :: bytesT (.slice a4 (nn + n) c4) (codeNum cnt ++ l) :: cellsT gm 51 (rjC (.pointer (some ⟨gs, 0, none⟩)) (.pointer (some ⟨gl, 0, none⟩)) (cnt) age) :: tl) := ((S4'.front 4 rfl).front 4 rfl).front 4 rfl
  refine hK.out _ _ (by exact keep S4'.tail) (fun hHeld => ?_)
  clear hK K
  try simp only [Act.put, List.setIfInBounds_toArray, List.set_cons_zero, List.set_cons_succ]
  refine wpAnyH_ready (rs := [11]) (by kernel_rfl) (by simp) ?_
  refine AllReadyH.cons (ops_at rfl) (fun K hK => ?_) AllReadyH.nil
  go_simp
  refine (rPut_any S5 a4 (codeNum cnt ++ l) (nn + n) c4 hs4.1 (by omega) hs4.2.1 hs4.2.2.2.1 (Reads.at 0 rfl) HHd.out HOk.out HU.out hxn hf hps).mono ?_
  rintro e w6 ⟨ys, aY, cY, rfl, hys, hhy, S6⟩
  have S7 : St w0 w6 (cellsT gm 51 (rjC (.pointer (some ⟨gs, 0, none⟩)) (.pointer (some ⟨gl, 0, none⟩)) (cnt) age) :: cellsT gl 90 (rlogC pr fr sz (.slice aY ys.length cY)) :: rdT pr (rlogPut fr sz r (xs.map BS.l) (codeNum cnt ++ l)).2.1 :: rowsT eS bsRefs (.slice aY ys.length cY) ys :: tl) := ((S6.front 4 rfl).front 4 rfl).tail
  refine hK.out _ _ (by exact keep S7) (fun hHeld => ?_)
  clear hK K
  try simp only [Act.put, List.setIfInBounds_toArray, List.set_cons_zero, List.set_cons_succ]
  refine wpAnyH_take (i := 12) (v := ?v13) (ops_at rfl) (by kernel_rfl) (by kernel_rfl) (by kernel_rfl) (fun _ _ _ h => h) (Or.inl ⟨by rfl, ?hy13⟩) (by assumption) ?rest13
  case hy13 => intro w' hSw; (try dsimp only at hSw); go_simp; try with_reducible rfl
  try simp only [Act.put, List.setIfInBounds_toArray, List.set_cons_zero, List.set_cons_succ]
  refine wpAnyH_done (by kernel_rfl) ?_ _
  have HYs := hid hys
  have HHy := hid hhy
  clear hys hhy S S3 S4 S4' S5 S6 keep
  generalize rlogPut fr sz r (xs.map BS.l) (codeNum cnt ++ l) = P at *
  have hwr : IntKind.i64.wrap (cnt + 1) = cnt + 1 := by rw [IntKind.wrap_i64]; omega
  by_cases h0 : P.1 = 0
  · have g2 : (P.1 == 0) = true := by rw [h0]; rfl
    have E2 := E.out
    rw [if_pos h0] at E2
    have HE2 := hid E2
    clear E E2 h0
    have c3 := S7.cell 0 rfl 2 rfl
    have f3 := S7.frozen 0 rfl 2
    have S8 := S7.setCell 0 rfl 2 (.int .i64 (cnt + 1))
    go_wp2
    go_ret
    rw [HE2.out]
    exact ⟨ys, aY, cY, rfl, HYs.out, HHy.out, S8⟩
  · have g2 : (P.1 == 0) = false := by simpa using h0
    have E2 := E.out
    rw [if_neg h0] at E2
    have HE2 := hid E2
    clear E E2 h0
    go_wp2
    go_ret
    rw [HE2.out]
    exact ⟨ys, aY, cY, rfl, HYs.out, HHy.out, S7⟩
end
end Go.Proofs.Ytmfbbonppmhabaa
