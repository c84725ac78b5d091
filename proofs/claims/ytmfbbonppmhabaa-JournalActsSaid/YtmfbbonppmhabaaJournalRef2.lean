/- The document's journal (dunnageref07): Append, Compact. -/
import Derived.Test.YtmfbbonppmhabaaJournalRef
namespace Go.Proofs.Ytmfbbonppmhabaa
set_option linter.unusedVariables false
set_option linter.unusedSimpArgs false
open Go.RowKit
def rjAppend (fr sz : Nat) (r : RD) (ps : List (List UInt8)) (cnt : Int) (l : List UInt8) : Int × RD × List (List UInt8) × Int :=
  ((rjStart fr sz r ps cnt l).1, if (rjStart fr sz r ps cnt l).1 = 0 then (rjStart fr sz r ps cnt l).2.1.sync else (rjStart fr sz r ps cnt l).2.1, (rjStart fr sz r ps cnt l).2.2.1, (rjStart fr sz r ps cnt l).2.2.2)
def rjCompact (q fr sz : Nat) (r : RD) (ps : List (List UInt8)) (cnt age : Int) (p : List UInt8) : Int × RD × List (List UInt8) × Int :=
  if age = cnt then (3, r, ps, age)
  else if (rslStart r 0 q p cnt).1 = 0 then (0, (rslStart r 0 q p cnt).2.sync.nought fr sz 0, [], cnt)
  else (3, (rslStart r 0 q p cnt).2, ps, age)
theorem rjStart_lens (fr sz : Nat) (r : RD) (ps : List (List UInt8)) (cnt : Int) (l : List UInt8) : (rjStart fr sz r ps cnt l).2.1.ps.length ≤ r.ps.length + 4020 ∧ (rjStart fr sz r ps cnt l).2.1.syncs = r.syncs := by
  unfold rjStart
  split
  · exact ⟨Nat.le_add_right _ _, rfl⟩
  · unfold rlogPut
    have h1 := frameB_le (codeNum cnt ++ l)
    split
    · exact ⟨Nat.le_add_right _ _, rfl⟩
    split
    · exact ⟨Nat.le_add_right _ _, rfl⟩
    · have := RD.write_len r ((fr + (ps.flatMap frameB).length : Nat) : Int) (frameB (codeNum cnt ++ l))
      exact ⟨Nat.le_trans this.1 (by omega), this.2.1⟩
section
variable {w0 w : World} {tl : List Thing} {gm gs gl : Nat} {pr : Value} {cnt age : Int} {fr sz q : Nat} {r : RD} {xs : List BS}
set_option maxRecDepth 10000 in
set_option maxHeartbeats 3200000 in
theorem rjAppend_any {aL : Option Addr} {cL : Nat} (S : St w0 w (cellsT gm 51 (rjC (.pointer (some ⟨gs, 0, none⟩)) (.pointer (some ⟨gl, 0, none⟩)) (cnt) age) :: cellsT gl 90 (rlogC pr fr sz (.slice aL xs.length cL)) :: rdT pr r :: rowsT eS bsRefs (.slice aL xs.length cL) xs :: tl)) (a : Option Addr) (l : List UInt8) (n cap : Nat) (hn : l.length = n) (hcap : n ≤ cap) (hnb : n ≤ maxLen) (hA : Reads w0 tl a l)
    (hc : 0 ≤ cnt ∧ cnt ≤ 1000000000) (hhd : ∀ x ∈ xs, BS.Hd x) (hok : ∀ x ∈ xs, x.l.length ≤ 4000) (hu : ((xs.map BS.l).flatMap frameB).length ≤ sz) (hxn : xs.length ≤ 1000000) (hf : fr + sz ≤ 65536) (hps : r.ps.length ≤ 10000000) (hs : r.syncs < 100000000) :
    Calls Try.prog 18 #[(.pointer (some ⟨gm, 0, none⟩)), .slice a n cap] w fun e w' => RJPost w0 tl pr gm gs gl fr sz age (rjAppend fr sz r (xs.map BS.l) cnt l) e w' := by
  have HP := hid (rjStart_any S a l n cap hn hcap hnb hA hc hhd hok hu hxn hf hps)
  have hl := rjStart_lens fr sz r (xs.map BS.l) cnt l
  unfold rjAppend
  generalize rjStart fr sz r (xs.map BS.l) cnt l = R at *
  clear hn hA hc hhd hok hu
  go_enter Try.func18, Try.ntmps18
  go_wp2_with fail
  refine HP.out.mono ?_
  rintro e w1 ⟨ys, aY, cY, rfl, hys, hyd, S1⟩
  have HY := hid (And.intro hys hyd)
  clear hys hyd
  have c0 := S1.cell 0 rfl 1 rfl
  have c1 := S1.cell 1 rfl 0 rfl
  by_cases h0 : R.1 = 0
  · have g0 : (R.1 == 0) = true := by rw [h0]; rfl
    have HZ := hid h0
    clear h0
    go_wp2_with fail
    refine (rdsync_any (by exact S1.front 2 rfl) (by omega) (by omega)).mono ?_
    rintro e w2 ⟨rfl, S2⟩
    go_wp2
    go_ret
    refine ⟨ys, aY, cY, rfl, HY.out.1, HY.out.2, ?_⟩
    exact (S2.front 2 rfl).front 2 rfl
  · have g0 : (R.1 == 0) = false := by simpa using h0
    have HZ := hid h0
    clear h0
    go_wp2
    go_ret
    refine ⟨ys, aY, cY, rfl, HY.out.1, HY.out.2, ?_⟩
    exact S1
set_option maxRecDepth 10000 in
set_option maxHeartbeats 3200000 in
theorem rjCompact_any {aL : Option Addr} {cL : Nat} (S : St w0 w (cellsT gm 51 (rjC (.pointer (some ⟨gs, 0, none⟩)) (.pointer (some ⟨gl, 0, none⟩)) (cnt) age) :: cellsT gl 90 (rlogC pr fr sz (.slice aL xs.length cL)) :: rdT pr r :: rowsT eS bsRefs (.slice aL xs.length cL) xs :: cellsT gs 108 (rslotC pr 0 q) :: tl)) (a : Option Addr) (l : List UInt8) (n cap : Nat) (hn : l.length = n) (hm : n ≤ 65536) (hcap : n ≤ cap) (hA : Reads w0 tl a l)
    (hhd : ∀ x ∈ xs, BS.Hd x) (hf : fr + sz ≤ 65536) (hq : 2 * q ≤ r.b.length) (hps : r.ps.length ≤ 10000000) (hs : r.syncs < 1000000) (hbl : r.bytes.length = r.b.length) (hR1 : (rslStart r 0 q l cnt).2.ps.length ≤ 10000000) (hR2 : (rslStart r 0 q l cnt).2.syncs < 10000000) :
    Calls Try.prog 19 #[(.pointer (some ⟨gm, 0, none⟩)), .slice a n cap] w fun e w' => ∃ ys aY cY, e = .returned (.int .i64 (rjCompact q fr sz r (xs.map BS.l) cnt age l).1) ∧ ys.map BS.l = (rjCompact q fr sz r (xs.map BS.l) cnt age l).2.2.1 ∧ (∀ x ∈ ys, BS.Hd x) ∧ St w0 w' (cellsT gm 51 (rjC (.pointer (some ⟨gs, 0, none⟩)) (.pointer (some ⟨gl, 0, none⟩)) cnt ((rjCompact q fr sz r (xs.map BS.l) cnt age l).2.2.2)) :: cellsT gl 90 (rlogC pr fr sz (.slice aY ys.length cY)) :: rdT pr (rjCompact q fr sz r (xs.map BS.l) cnt age l).2.1 :: rowsT eS bsRefs (.slice aY ys.length cY) ys :: cellsT gs 108 (rslotC pr 0 q) :: tl) := by
  have HN := hid hn
  have HA := hid hA
  have HHd := hid hhd
  have HBl := hid hbl
  have keep : ∀ {w' : World} {r : List Thing}, St w0 w' (cellsT gm 51 (rjC (.pointer (some ⟨gs, 0, none⟩)) (.pointer (some ⟨gl, 0, none⟩)) (cnt) age) :: r) → w'.cell? ⟨gm, 0, none⟩ = some (.pointer (some ⟨gs, 0, none⟩)) ∧ w'.cell? ⟨gm, 2, none⟩ = some (.int .i64 cnt) ∧ w'.cell? ⟨gm, 3, none⟩ = some (.int .i64 age) := fun S => ⟨S.cell 0 rfl 0 rfl, S.cell 0 rfl 2 rfl, S.cell 0 rfl 3 rfl⟩
  clear hn hA hhd hbl
  by_cases ha : age = cnt
  · have E : Hid (rjCompact q fr sz r (xs.map BS.l) cnt age l = (3, r, xs.map BS.l, age)) := by rw [Hid, rjCompact, if_pos ha]
    have g0 : (age == cnt) = true := by rw [ha]; simp
    clear ha
    go_enter Try.func19, Try.ntmps19
    go_wp2_with fail
    refine wp_region_held_drew (S := (fun w' => w'.cell? ⟨gm, 0, none⟩ = some (.pointer (some ⟨gs, 0, none⟩)) ∧ w'.cell? ⟨gm, 2, none⟩ = some (.int .i64 cnt) ∧ w'.cell? ⟨gm, 3, none⟩ = some (.int .i64 age))) (by kernel_rfl) (by exact keep S.drew) (fun hHeld => ?_)
    change wpAnyH _ _ _ _ _ 9 (Array.replicate 9 false) _ _
    refine wpAnyH_take (i := 0) (v := ?v1) (ops_at rfl) (by kernel_rfl) (by kernel_rfl) (by kernel_rfl) (fun _ _ _ h => h) (Or.inl ⟨by rfl, ?hy1⟩) (by assumption) ?rest1
    case hy1 => intro w' hSw; (try dsimp only at hSw); go_simp; try with_reducible rfl
    try simp only [Act.put, List.setIfInBounds_toArray, List.set_cons_zero, List.set_cons_succ]
    refine wpAnyH_take (i := 1) (v := ?v2) (ops_at rfl) (by kernel_rfl) (by kernel_rfl) (by kernel_rfl) (fun _ _ _ h => h) (Or.inl ⟨by rfl, ?hy2⟩) (by assumption) ?rest2
    case hy2 => intro w' hSw; (try dsimp only at hSw); go_simp; try with_reducible rfl
    try simp only [Act.put, List.setIfInBounds_toArray, List.set_cons_zero, List.set_cons_succ]
    refine wpAnyH_take (i := 2) (v := ?v3) (ops_at rfl) (by kernel_rfl) (by kernel_rfl) (by kernel_rfl) (fun _ _ _ h => h) (Or.inl ⟨by rfl, ?hy3⟩) (by assumption) ?rest3
    case hy3 => intro w' hSw; (try dsimp only at hSw); go_simp; try with_reducible rfl
    try simp only [Act.put, List.setIfInBounds_toArray, List.set_cons_zero, List.set_cons_succ]
    refine wpAnyH_take (i := 3) (v := ?v4) (ops_at rfl) (by kernel_rfl) (by kernel_rfl) (by kernel_rfl) (fun _ _ _ h => h) (Or.inl ⟨by rfl, ?hy4⟩) (by assumption) ?rest4
    case hy4 => intro w' hSw; (try dsimp only at hSw); go_simp; try with_reducible rfl
    try simp only [Act.put, List.setIfInBounds_toArray, List.set_cons_zero, List.set_cons_succ]
    refine wpAnyH_take (i := 4) (v := ?v5) (ops_at rfl) (by kernel_rfl) (by kernel_rfl) (by kernel_rfl) (fun _ _ _ h => h) (Or.inl ⟨by rfl, ?hy5⟩) (by assumption) ?rest5
    case hy5 => intro w' hSw; (try dsimp only at hSw); go_simp; try with_reducible rfl
    try simp only [Act.put, List.setIfInBounds_toArray, List.set_cons_zero, List.set_cons_succ]
    refine wpAnyH_take (i := 5) (v := ?v6) (ops_at rfl) (by kernel_rfl) (by kernel_rfl) (by kernel_rfl) (fun _ _ _ h => h) (Or.inl ⟨by rfl, ?hy6⟩) (by assumption) ?rest6
    case hy6 => intro w' hSw; (try dsimp only at hSw); go_simp; try with_reducible rfl
    try simp only [Act.put, List.setIfInBounds_toArray, List.set_cons_zero, List.set_cons_succ]
    refine wpAnyH_take (i := 6) (v := ?v7) (ops_at rfl) (by kernel_rfl) (by kernel_rfl) (by kernel_rfl) (fun _ _ _ h => h) (Or.inl ⟨by rfl, ?hy7⟩) (by assumption) ?rest7
    case hy7 => intro w' hSw; (try dsimp only at hSw); go_simp; try with_reducible rfl
    try simp only [Act.put, List.setIfInBounds_toArray, List.set_cons_zero, List.set_cons_succ]
    refine wpAnyH_take (i := 7) (v := ?v8) (ops_at rfl) (by kernel_rfl) (by kernel_rfl) (by kernel_rfl) (fun _ _ _ h => h) (Or.inl ⟨by rfl, ?hy8⟩) (by assumption) ?rest8
    case hy8 => intro w' hSw; (try dsimp only at hSw); go_simp; try with_reducible rfl
    try simp only [Act.put, List.setIfInBounds_toArray, List.set_cons_zero, List.set_cons_succ]
    refine wpAnyH_take (i := 8) (v := ?v9) (ops_at rfl) (by kernel_rfl) (by kernel_rfl) (by kernel_rfl) (fun _ _ _ h => h) (Or.inl ⟨by rfl, ?hy9⟩) (by assumption) ?rest9
    case hy9 => intro w' hSw; (try dsimp only at hSw); go_simp; try with_reducible rfl
    try simp only [Act.put, List.setIfInBounds_toArray, List.set_cons_zero, List.set_cons_succ]
    refine wpAnyH_done (by kernel_rfl) ?_ _
    go_wp2
    go_ret
    rw [E.out]
    exact ⟨xs, aL, cL, rfl, rfl, HHd.out, S.drew⟩
  have g0 : (age == cnt) = false := by simpa using ha
  have E : Hid (rjCompact q fr sz r (xs.map BS.l) cnt age l = if (rslStart r 0 q l cnt).1 = 0 then (0, (rslStart r 0 q l cnt).2.sync.nought fr sz 0, [], cnt) else (3, (rslStart r 0 q l cnt).2, xs.map BS.l, age)) := by rw [Hid, rjCompact, if_neg ha]
  clear ha
  go_enter Try.func19, Try.ntmps19
  go_wp2_with fail
  refine wp_region_held_drew (S := (fun w' => w'.cell? ⟨gm, 0, none⟩ = some (.pointer (some ⟨gs, 0, none⟩)) ∧ w'.cell? ⟨gm, 2, none⟩ = some (.int .i64 cnt) ∧ w'.cell? ⟨gm, 3, none⟩ = some (.int .i64 age))) (by kernel_rfl) (by exact keep S.drew) (fun hHeld => ?_)
  change wpAnyH _ _ _ _ _ 9 (Array.replicate 9 false) _ _
  refine wpAnyH_take (i := 0) (v := ?v10) (ops_at rfl) (by kernel_rfl) (by kernel_rfl) (by kernel_rfl) (fun _ _ _ h => h) (Or.inl ⟨by rfl, ?hy10⟩) (by assumption) ?rest10
  case hy10 => intro w' hSw; (try dsimp only at hSw); go_simp; try with_reducible rfl
  try simp only [Act.put, List.setIfInBounds_toArray, List.set_cons_zero, List.set_cons_succ]
  refine wpAnyH_take (i := 1) (v := ?v11) (ops_at rfl) (by kernel_rfl) (by kernel_rfl) (by kernel_rfl) (fun _ _ _ h => h) (Or.inl ⟨by rfl, ?hy11⟩) (by assumption) ?rest11
  case hy11 => intro w' hSw; (try dsimp only at hSw); go_simp; try with_reducible rfl
  try simp only [Act.put, List.setIfInBounds_toArray, List.set_cons_zero, List.set_cons_succ]
  refine wpAnyH_take (i := 2) (v := ?v12) (ops_at rfl) (by kernel_rfl) (by kernel_rfl) (by kernel_rfl) (fun _ _ _ h => h) (Or.inl ⟨by rfl, ?hy12⟩) (by assumption) ?rest12
  case hy12 => intro w' hSw; (try dsimp only at hSw); go_simp; try with_reducible rfl
  try simp only [Act.put, List.setIfInBounds_toArray, List.set_cons_zero, List.set_cons_succ]
  refine wpAnyH_take (i := 3) (v := ?v13) (ops_at rfl) (by kernel_rfl) (by kernel_rfl) (by kernel_rfl) (fun _ _ _ h => h) (Or.inl ⟨by rfl, ?hy13⟩) (by assumption) ?rest13
  case hy13 => intro w' hSw; (try dsimp only at hSw); go_simp; try with_reducible rfl
  try simp only [Act.put, List.setIfInBounds_toArray, List.set_cons_zero, List.set_cons_succ]
  refine wpAnyH_take (i := 4) (v := ?v14) (ops_at rfl) (by kernel_rfl) (by kernel_rfl) (by kernel_rfl) (fun _ _ _ h => h) (Or.inl ⟨by rfl, ?hy14⟩) (by assumption) ?rest14
  case hy14 => intro w' hSw; (try dsimp only at hSw); go_simp; try with_reducible rfl
  try simp only [Act.put, List.setIfInBounds_toArray, List.set_cons_zero, List.set_cons_succ]
  refine wpAnyH_take (i := 5) (v := ?v15) (ops_at rfl) (by kernel_rfl) (by kernel_rfl) (by kernel_rfl) (fun _ _ _ h => h) (Or.inl ⟨by rfl, ?hy15⟩) (by assumption) ?rest15
  case hy15 => intro w' hSw; (try dsimp only at hSw); go_simp; try with_reducible rfl
  try simp only [Act.put, List.setIfInBounds_toArray, List.set_cons_zero, List.set_cons_succ]
  refine wpAnyH_take (i := 6) (v := ?v16) (ops_at rfl) (by kernel_rfl) (by kernel_rfl) (by kernel_rfl) (fun _ _ _ h => h) (Or.inl ⟨by rfl, ?hy16⟩) (by assumption) ?rest16
  case hy16 => intro w' hSw; (try dsimp only at hSw); go_simp; try with_reducible rfl
  try simp only [Act.put, List.setIfInBounds_toArray, List.set_cons_zero, List.set_cons_succ]
  refine wpAnyH_take (i := 7) (v := ?v17) (ops_at rfl) (by kernel_rfl) (by kernel_rfl) (by kernel_rfl) (fun _ _ _ h => h) (Or.inl ⟨by rfl, ?hy17⟩) (by assumption) ?rest17
  case hy17 => intro w' hSw; (try dsimp only at hSw); go_simp; try with_reducible rfl
  try simp only [Act.put, List.setIfInBounds_toArray, List.set_cons_zero, List.set_cons_succ]
  refine wpAnyH_take (i := 8) (v := ?v18) (ops_at rfl) (by kernel_rfl) (by kernel_rfl) (by kernel_rfl) (fun _ _ _ h => h) (Or.inl ⟨by rfl, ?hy18⟩) (by assumption) ?rest18
  case hy18 => intro w' hSw; (try dsimp only at hSw); go_simp; try with_reducible rfl
  try simp only [Act.put, List.setIfInBounds_toArray, List.set_cons_zero, List.set_cons_succ]
  refine wpAnyH_done (by kernel_rfl) ?_ _
  go_wp2_with fail
  refine wp_region_held_drew (S := (fun w' => w'.cell? ⟨gm, 0, none⟩ = some (.pointer (some ⟨gs, 0, none⟩)) ∧ w'.cell? ⟨gm, 2, none⟩ = some (.int .i64 cnt) ∧ w'.cell? ⟨gm, 3, none⟩ = some (.int .i64 age))) (by kernel_rfl) (by exact keep S.drew.drew) (fun hHeld => ?_)
  change wpAnyH _ _ _ _ _ 11 (Array.replicate 11 false) _ _
  refine wpAnyH_take (i := 0) (v := ?v19) (ops_at rfl) (by kernel_rfl) (by kernel_rfl) (by kernel_rfl) (fun _ _ _ h => h) (Or.inl ⟨by rfl, ?hy19⟩) (by assumption) ?rest19
  case hy19 => intro w' hSw; (try dsimp only at hSw); go_simp; try with_reducible rfl
  try simp only [Act.put, List.setIfInBounds_toArray, List.set_cons_zero, List.set_cons_succ]
  refine wpAnyH_take (i := 1) (v := ?v20) (ops_at rfl) (by kernel_rfl) (by kernel_rfl) (by kernel_rfl) (fun _ _ _ h => h) (Or.inl ⟨by rfl, ?hy20⟩) (by assumption) ?rest20
  case hy20 => intro w' hSw; (try dsimp only at hSw); go_simp; try with_reducible rfl
  try simp only [Act.put, List.setIfInBounds_toArray, List.set_cons_zero, List.set_cons_succ]
  refine wpAnyH_take (i := 2) (v := ?v21) (ops_at rfl) (by kernel_rfl) (by kernel_rfl) (by kernel_rfl) (fun _ _ _ h => h) (Or.inl ⟨by rfl, ?hy21⟩) (by assumption) ?rest21
  case hy21 => intro w' hSw; (try dsimp only at hSw); go_simp; try with_reducible rfl
  try simp only [Act.put, List.setIfInBounds_toArray, List.set_cons_zero, List.set_cons_succ]
  refine wpAnyH_take (i := 3) (v := ?v22) (ops_at rfl) (by kernel_rfl) (by kernel_rfl) (by kernel_rfl) (fun _ _ _ h => h) (Or.inl ⟨by rfl, ?hy22⟩) (by assumption) ?rest22
  case hy22 => intro w' hSw; (try dsimp only at hSw); go_simp; try with_reducible rfl
  try simp only [Act.put, List.setIfInBounds_toArray, List.set_cons_zero, List.set_cons_succ]
  refine wpAnyH_take (i := 4) (v := ?v23) (ops_at rfl) (by kernel_rfl) (by kernel_rfl) (by kernel_rfl) (fun _ _ _ h => h) (Or.inl ⟨by rfl, ?hy23⟩) (by assumption) ?rest23
  case hy23 => intro w' hSw; (try dsimp only at hSw); go_simp; try with_reducible rfl
  try simp only [Act.put, List.setIfInBounds_toArray, List.set_cons_zero, List.set_cons_succ]
  refine wpAnyH_take (i := 5) (v := ?v24) (ops_at rfl) (by kernel_rfl) (by kernel_rfl) (by kernel_rfl) (fun _ _ _ h => h) (Or.inl ⟨by rfl, ?hy24⟩) (by assumption) ?rest24
  case hy24 => intro w' hSw; (try dsimp only at hSw); go_simp; try with_reducible rfl
  try simp only [Act.put, List.setIfInBounds_toArray, List.set_cons_zero, List.set_cons_succ]
  refine wpAnyH_take (i := 6) (v := ?v25) (ops_at rfl) (by kernel_rfl) (by kernel_rfl) (by kernel_rfl) (fun _ _ _ h => h) (Or.inl ⟨by rfl, ?hy25⟩) (by assumption) ?rest25
  case hy25 => intro w' hSw; (try dsimp only at hSw); go_simp; try with_reducible rfl
  try simp only [Act.put, List.setIfInBounds_toArray, List.set_cons_zero, List.set_cons_succ]
  refine wpAnyH_take (i := 7) (v := ?v26) (ops_at rfl) (by kernel_rfl) (by kernel_rfl) (by kernel_rfl) (fun _ _ _ h => h) (Or.inl ⟨by rfl, ?hy26⟩) (by assumption) ?rest26
  case hy26 => intro w' hSw; (try dsimp only at hSw); go_simp; try with_reducible rfl
  try simp only [Act.put, List.setIfInBounds_toArray, List.set_cons_zero, List.set_cons_succ]
  refine wpAnyH_take (i := 8) (v := ?v27) (ops_at rfl) (by kernel_rfl) (by kernel_rfl) (by kernel_rfl) (fun _ _ _ h => h) (Or.inl ⟨by rfl, ?hy27⟩) (by assumption) ?rest27
  case hy27 => intro w' hSw; (try dsimp only at hSw); go_simp; try with_reducible rfl
  try simp only [Act.put, List.setIfInBounds_toArray, List.set_cons_zero, List.set_cons_succ]
  refine wpAnyH_ready (rs := [9]) (by kernel_rfl) (by simp) ?_
  refine AllReadyH.cons (ops_at rfl) (fun K hK => ?_) AllReadyH.nil
  go_simp
  have S1 : St w0 w.drew.drew (cellsT gs 108 (rslotC pr 0 q) :: rdT pr r :: cellsT gm 51 (rjC (.pointer (some ⟨gs, 0, none⟩)) (.pointer (some ⟨gl, 0, none⟩)) (cnt) age) :: cellsT gl 90 (rlogC pr fr sz (.slice aL xs.length cL)) :: rowsT eS bsRefs (.slice aL xs.length cL) xs :: tl) := ((S.drew.drew.front 4 rfl).front 3 rfl).front 1 rfl
  refine (rslStart_any S1 (by omega) hps (by omega) HBl.out a l n cap HN.out hm hcap (fun W pre S' => HA.out W (pre ++ [_, _, _]) (by rw [List.append_assoc]; exact S')) cnt).mono ?_
  rintro e w2 ⟨rfl, S2⟩
  have S3 : St w0 w2 (cellsT gm 51 (rjC (.pointer (some ⟨gs, 0, none⟩)) (.pointer (some ⟨gl, 0, none⟩)) (cnt) age) :: rdT pr (rslStart r 0 q l cnt).2 :: cellsT gs 108 (rslotC pr 0 q) :: cellsT gl 90 (rlogC pr fr sz (.slice aL xs.length cL)) :: rowsT eS bsRefs (.slice aL xs.length cL) xs :: tl) := (S2.front 1 rfl).front 2 rfl
  refine hK.out _ _ (by exact keep S3) (fun hHeld => ?_)
  clear hK K
  try simp only [Act.put, List.setIfInBounds_toArray, List.set_cons_zero, List.set_cons_succ]
  refine wpAnyH_take (i := 10) (v := ?v29) (ops_at rfl) (by kernel_rfl) (by kernel_rfl) (by kernel_rfl) (fun _ _ _ h => h) (Or.inl ⟨by rfl, ?hy29⟩) (by assumption) ?rest29
  case hy29 => intro w' hSw; (try dsimp only at hSw); go_simp; try with_reducible rfl
  try simp only [Act.put, List.setIfInBounds_toArray, List.set_cons_zero, List.set_cons_succ]
  refine wpAnyH_done (by kernel_rfl) ?_ _
  generalize rslStart r 0 q l cnt = R at *
  generalize hpb : (R.1 != 0) = pb
  cases pb
  case true =>
    have E2 := E.out
    rw [if_neg (by simpa using hpb)] at E2
    have HE2 := hid E2
    clear E E2 hpb
    go_wp2
    go_ret
    rw [HE2.out]
    exact ⟨xs, aL, cL, rfl, rfl, HHd.out, ((S3.front 3 rfl).front 1 rfl : St w0 w2 (_ :: _ :: _ :: _ :: _ :: tl)) |> fun T => (((T.front 4 rfl).front 3 rfl).front 3 rfl).front 3 rfl |> fun T => T⟩
  case false =>
    have E2 := E.out
    rw [if_pos (by simpa using hpb)] at E2
    have HE2 := hid E2
    clear E E2 hpb
    have c1 := S3.cell 0 rfl 1 rfl
    have c2 := S3.cell 3 rfl 0 rfl
    go_wp2_with fail
    refine (rdsync_any (by exact S3.front 1 rfl) (by omega) (by omega)).mono ?_
    rintro e w3 ⟨rfl, S4⟩
    have c3 := S4.cell 1 rfl 2 rfl
    have c4 := S4.cell 1 rfl 3 rfl
    have f4 := S4.frozen 1 rfl 3
    have S5 := S4.setCell 1 rfl 3 (.int .i64 cnt)
    have c5 := S5.cell 1 rfl 1 rfl
    have S6 : St w0 (w3.setCell ⟨gm, 3, none⟩ (.int .i64 cnt)) (cellsT gl 90 (rlogC pr fr sz (.slice aL xs.length cL)) :: rdT pr R.2.sync :: rowsT eS bsRefs (.slice aL xs.length cL) xs :: cellsT gm 51 (rjC (.pointer (some ⟨gs, 0, none⟩)) (.pointer (some ⟨gl, 0, none⟩)) cnt (cnt)) :: cellsT gs 108 (rslotC pr 0 q) :: tl) := ((S5.front 4 rfl).front 1 rfl).front 4 rfl
    clear S1 S2 S3 keep S5
    go_wp2_with fail
    refine (rClear_any (n := 0) (cL := 0) (aL := none) S6 hf (by show ([] : List (Nat × UInt8)).length ≤ _; simp) (by show R.2.syncs + 1 < _; omega)).mono ?_
    rintro e w4 ⟨rfl, S7⟩
    go_wp2
    go_ret
    rw [HE2.out]
    exact ⟨[], none, 0, rfl, rfl, (fun x hx => absurd hx (by simp)), S7.front 3 rfl⟩
end
end Go.Proofs.Ytmfbbonppmhabaa
