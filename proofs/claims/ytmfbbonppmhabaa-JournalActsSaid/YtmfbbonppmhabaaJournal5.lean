/- The journal's methods: Append, Compact. -/
import Derived.Test.YtmfbbonppmhabaaJournal4
namespace Go.Proofs.Ytmfbbonppmhabaa
set_option linter.unusedVariables false
set_option linter.unusedSimpArgs false
open Go.RowKit
theorem jStart_lens (d : DSt) (fr sz used : Nat) (cnt : Int) (l : List UInt8) : (jStart d fr sz used cnt l).2.1.waits.length ≤ d.waits.length + 1 ∧ (jStart d fr sz used cnt l).2.1.syncs = d.syncs ∧ (jStart d fr sz used cnt l).2.1.lasts = d.lasts := by
  unfold jStart
  split
  · exact ⟨Nat.le_succ _, rfl, rfl⟩
  · split
    · exact ⟨Nat.le_succ _, rfl, rfl⟩
    · exact logPut_lens d fr sz used (codeNum cnt ++ l)
section
variable {w0 w : World} {tl : List Thing} {gj gs gl : Nat} {pd ps pl : Value} {cnt age : Int} {fr sz used q : Nat} {d : DSt}
theorem jAppend_nil (w : World) (a : Option Addr) (n c : Nat) : Calls Try.prog 12 #[.pointer none, .slice a n c] w fun e w' => e = .returned (.int .i64 1) ∧ w = w' := by
  go_enter Try.func12, Try.ntmps12
  go_wp2_with fail
  refine (jStart_nil w a n c).mono ?_
  rintro e w1 ⟨rfl, rfl⟩
  go_wp2
  go_ret
  exact ⟨rfl, rfl⟩
set_option maxRecDepth 10000 in
set_option maxHeartbeats 3200000 in
theorem jlAppend (S : St w0 w (cellsT gj 70 (jC pd (.pointer (some ⟨gs, 0, none⟩)) (.pointer (some ⟨gl, 0, none⟩)) cnt age) :: cellsT gl 99 (logC pd fr sz used) :: diskT pd d :: tl)) (a : Option Addr) (l : List UInt8) (n cap : Nat) (hn : l.length = n) (hm : n ≤ maxLen) (hcap : n ≤ cap) (hnil : a = none → cap = 0) (hA : Reads w0 tl a l)
    (hc : 0 ≤ cnt ∧ cnt ≤ 1000000000) (hf : fr + sz ≤ d.lasts.length) (hu : used ≤ sz) (hw : d.waits.length ≤ 1000) (hs : d.syncs < 100000000) :
    Calls Try.prog 12 #[(.pointer (some ⟨gj, 0, none⟩)), .slice a n cap] w fun e w' => e = .returned (.int .i64 (jAppend d fr sz used cnt l).1) ∧
      St w0 w' (cellsT gj 70 (jC pd (.pointer (some ⟨gs, 0, none⟩)) (.pointer (some ⟨gl, 0, none⟩)) (jAppend d fr sz used cnt l).2.2.2 age) :: cellsT gl 99 (logC pd fr sz (jAppend d fr sz used cnt l).2.2.1) :: diskT pd (jAppend d fr sz used cnt l).2.1 :: tl) := by
  have HP := jlStart S a l n cap hn hm hcap hnil hA hc hf hu hw
  have HL := jStart_lens d fr sz used cnt l
  unfold jAppend
  generalize jStart d fr sz used cnt l = r at *
  obtain ⟨e1, d1, u1, c1⟩ := r
  simp only at HL ⊢
  obtain ⟨D, hD⟩ : ∃ D, (if e1 = 0 then d1.sync else d1) = D := ⟨_, rfl⟩
  rw [hD]
  have HD := hid hD
  clear hn hA hD
  go_enter Try.func12, Try.ntmps12
  go_wp2_with fail
  refine HP.mono ?_
  rintro e w1 ⟨rfl, S1⟩
  simp only at S1 ⊢
  by_cases h0 : e1 = 0
  · subst h0
    have c0 := S1.cell 0 rfl 0 rfl
    go_wp2_with fail
    refine (hsync S1 2 rfl (by omega) (by omega)).mono ?_
    rintro e w2 ⟨rfl, S2⟩
    go_wp2
    go_ret
    exact ⟨rfl, by rw [← HD.out]; simpa using S2⟩
  · have g0 : (e1 != 0) = true := by simpa using h0
    have E : Hid (D = d1) := by rw [Hid, ← HD.out, if_neg h0]
    go_wp2
    go_ret
    exact ⟨rfl, by rw [E.out]; exact S1⟩
def jCompact (d : DSt) (q fr sz used : Nat) (cnt age : Int) (p : List UInt8) : Int × DSt × Nat × Int :=
  if age = cnt then (3, d, used, age)
  else if (slSave d 0 q p cnt).1 = 0 then (0, (slSave d 0 q p cnt).2.nought fr sz 0, 0, cnt)
  else (3, (slSave d 0 q p cnt).2, used, age)
theorem write_fit {a : Int} {b : List UInt8} (h : ∀ x ∈ d.waits, x.1 + x.2.length ≤ d.lasts.length) : ∀ x ∈ (d.write a b).waits, x.1 + x.2.length ≤ (d.write a b).lasts.length := by
  intro x hx
  rw [DSt.write_lasts]
  by_cases hc : d.can a b.length = 0
  · rw [DSt.write_ok hc] at hx
    rcases List.mem_append.1 hx with hx | hx
    · exact h x hx
    · simp only [List.mem_singleton] at hx
      subst hx
      unfold DSt.can at hc
      split at hc
      · omega
      · simp only; omega
  · rw [DSt.write_bad hc] at hx
    exact h x hx
theorem sync_len (h : ∀ x ∈ d.waits, x.1 + x.2.length ≤ d.lasts.length) : d.sync.lasts.length = d.lasts.length := by
  show (dDone d.lasts (dWaits d.waits) d.waits).length = _
  rw [dDone_all _ _ _ (Int.le_refl _)]
  exact dAll_len _ _ h
theorem slStart_len {b : List UInt8} {A : Int} (h : ∀ x ∈ d.waits, x.1 + x.2.length ≤ d.lasts.length) : (slStart d fr sz b A).2.lasts.length = d.lasts.length ∧ ∀ x ∈ (slStart d fr sz b A).2.waits, x.1 + x.2.length ≤ (slStart d fr sz b A).2.lasts.length := by
  unfold slStart
  split
  · exact ⟨rfl, h⟩
  split
  · exact ⟨rfl, h⟩
  split
  · exact ⟨rfl, h⟩
  · have h1 := write_fit (a := ((fr + (if newestI (pic (piece d.bytes (fr + 0 * sz) sz)) (pic (piece d.bytes (fr + 1 * sz) sz)) = 0 then 1 else 0) * sz : Nat) : Int)) (b := List.replicate sz 0) h
    have h2 : ∀ x ∈ ((d.write ((fr + (if newestI (pic (piece d.bytes (fr + 0 * sz) sz)) (pic (piece d.bytes (fr + 1 * sz) sz)) = 0 then 1 else 0) * sz : Nat) : Int) (List.replicate sz 0)).sync).waits, x.1 + x.2.length ≤ ((d.write ((fr + (if newestI (pic (piece d.bytes (fr + 0 * sz) sz)) (pic (piece d.bytes (fr + 1 * sz) sz)) = 0 then 1 else 0) * sz : Nat) : Int) (List.replicate sz 0)).sync).lasts.length := fun x hx => by cases hx
    refine ⟨?_, write_fit h2⟩
    rw [DSt.write_lasts, sync_len h1, DSt.write_lasts]
theorem slSave_len {b : List UInt8} {A : Int} (h : ∀ x ∈ d.waits, x.1 + x.2.length ≤ d.lasts.length) : (slSave d fr sz b A).2.lasts.length = d.lasts.length := by
  have := slStart_len (fr := fr) (sz := sz) (b := b) (A := A) h
  unfold slSave
  simp only
  split
  · rw [sync_len this.2, this.1]
  · exact this.1
theorem slSave_lens (d : DSt) (fr sz : Nat) (b : List UInt8) (A : Int) : (slSave d fr sz b A).2.waits.length ≤ d.waits.length + 1 ∧ (slSave d fr sz b A).2.syncs ≤ d.syncs + 2 := by
  have := slStart_lens d fr sz b A
  unfold slSave
  simp only
  split
  · exact ⟨by rw [(sync_waits _).1]; simp, by rw [(sync_waits _).2]; omega⟩
  · exact ⟨this.1, by omega⟩
set_option maxRecDepth 10000 in
set_option maxHeartbeats 3200000 in
theorem jlCompact (S : St w0 w (cellsT gj 70 (jC pd (.pointer (some ⟨gs, 0, none⟩)) (.pointer (some ⟨gl, 0, none⟩)) cnt age) :: cellsT gl 99 (logC pd fr sz used) :: diskT pd d :: cellsT gs 97 (slotC pd 0 q) :: tl)) (a : Option Addr) (l : List UInt8) (n cap : Nat) (hn : l.length = n) (hm : n ≤ 65536) (hcap : n ≤ cap) (hnil : a = none → cap = 0) (hA : Reads w0 tl a l)
    (hf : fr + sz ≤ d.lasts.length) (hq : 2 * q ≤ d.lasts.length) (hw : d.waits.length ≤ 900) (hs : d.syncs < 1000000) :
    Calls Try.prog 13 #[(.pointer (some ⟨gj, 0, none⟩)), .slice a n cap] w fun e w' => e = .returned (.int .i64 (jCompact d q fr sz used cnt age l).1) ∧
      St w0 w' (cellsT gj 70 (jC pd (.pointer (some ⟨gs, 0, none⟩)) (.pointer (some ⟨gl, 0, none⟩)) cnt (jCompact d q fr sz used cnt age l).2.2.2) :: cellsT gl 99 (logC pd fr sz (jCompact d q fr sz used cnt age l).2.2.1) :: diskT pd (jCompact d q fr sz used cnt age l).2.1 :: cellsT gs 97 (slotC pd 0 q) :: tl) := by
  have HN := hid hn
  have HA := hid hA
  have hfit := (S.disk 2 rfl).1
  have HLs := hid (slSave_len (fr := 0) (sz := q) (b := l) (A := cnt) hfit)
  have hln := slSave_lens d 0 q l cnt
  have keep : ∀ {w' : World} {r : List Thing}, St w0 w' (cellsT gj 70 (jC pd (.pointer (some ⟨gs, 0, none⟩)) (.pointer (some ⟨gl, 0, none⟩)) cnt age) :: r) → (w'.cell? ⟨gj, 1, none⟩ = some (.pointer (some ⟨gs, 0, none⟩)) ∧ w'.cell? ⟨gj, 3, none⟩ = some (.int .i64 cnt) ∧ w'.cell? ⟨gj, 4, none⟩ = some (.int .i64 age)) := fun S => ⟨S.cell 0 rfl 1 rfl, S.cell 0 rfl 3 rfl, S.cell 0 rfl 4 rfl⟩
  clear hn hA hfit
  by_cases ha : age = cnt
  · have E : Hid (jCompact d q fr sz used cnt age l = (3, d, used, age)) := by rw [Hid, jCompact, if_pos ha]
    have g0 : (age == cnt) = true := by simpa using ha
    clear ha
    go_enter Try.func13, Try.ntmps13
    go_wp2_with fail
    refine wp_region_held_drew (S := (fun w' => (w'.cell? ⟨gj, 1, none⟩ = some (.pointer (some ⟨gs, 0, none⟩)) ∧ w'.cell? ⟨gj, 3, none⟩ = some (.int .i64 cnt) ∧ w'.cell? ⟨gj, 4, none⟩ = some (.int .i64 age)))) (by kernel_rfl) (by exact keep S.drew) (fun hHeld => ?_)
    change wpAnyH _ _ _ _ _ 22 (Array.replicate 22 false) _ _
    refine wpAnyH_take (i := 0) (v := ?v1) (ops_at rfl) (by kernel_rfl) (by kernel_rfl) (by kernel_rfl) (fun _ _ _ h => h) (Or.inl ⟨by rfl, ?hy1⟩) (by assumption) ?rest1
    case hy1 => intro w' hSw; (try dsimp only at hSw); go_simp; try with_reducible rfl
    try simp only [Act.put, List.setIfInBounds_toArray, List.set_cons_zero, List.set_cons_succ]
    refine wpAnyH_take (i := 1) (v := ?v2) (ops_at rfl) (by kernel_rfl) (by kernel_rfl) (by kernel_rfl) (fun _ _ _ h => h) (Or.inl ⟨by rfl, ?hy2⟩) (by assumption) ?rest2
    case hy2 => intro w' hSw; (try dsimp only at hSw); go_simp; try with_reducible rfl
    try simp only [Act.put, List.setIfInBounds_toArray, List.set_cons_zero, List.set_cons_succ]
    refine wpAnyH_take (i := 2) (v := ?v3) (ops_at rfl) (by kernel_rfl) (by kernel_rfl) (by kernel_rfl) (fun _ _ _ h => h) (Or.inl ⟨by rfl, ?hy3⟩) (by assumption) ?rest3
    case hy3 => intro w' hSw; (try dsimp only at hSw); go_simp; try with_reducible rfl
    try simp only [Act.put, List.setIfInBounds_toArray, List.set_cons_zero, List.set_cons_succ]
    refine wpAnyH_take (i := 3) (v := ?v4) (ops_at rfl) (by kernel_rfl) (by kernel_rfl) (by kernel_rfl) (fun _ _ _ h => h) (Or.inl ⟨by rfl, ?hy4⟩) (by assumption) ?rest4
    case hy4 => intro w' hSw; (try dsimp only at hSw); go_simp; try with_reducible rfl
    try simp only [Act.put, List.setIfInBounds_toArray, List.set_cons_zero, List.set_cons_succ]
    refine wpAnyH_take (i := 4) (v := ?v5) (ops_at rfl) (by kernel_rfl) (by kernel_rfl) (by kernel_rfl) (fun _ _ _ h => h) (Or.inl ⟨by rfl, ?hy5⟩) (by assumption) ?rest5
    case hy5 => intro w' hSw; (try dsimp only at hSw); go_simp; try with_reducible rfl
    try simp only [Act.put, List.setIfInBounds_toArray, List.set_cons_zero, List.set_cons_succ]
    refine wpAnyH_take (i := 5) (v := ?v6) (ops_at rfl) (by kernel_rfl) (by kernel_rfl) (by kernel_rfl) (fun _ _ _ h => h) (Or.inl ⟨by rfl, ?hy6⟩) (by assumption) ?rest6
    case hy6 => intro w' hSw; (try dsimp only at hSw); go_simp; try with_reducible rfl
    try simp only [Act.put, List.setIfInBounds_toArray, List.set_cons_zero, List.set_cons_succ]
    refine wpAnyH_take (i := 6) (v := ?v7) (ops_at rfl) (by kernel_rfl) (by kernel_rfl) (by kernel_rfl) (fun _ _ _ h => h) (Or.inl ⟨by rfl, ?hy7⟩) (by assumption) ?rest7
    case hy7 => intro w' hSw; (try dsimp only at hSw); go_simp; try with_reducible rfl
    try simp only [Act.put, List.setIfInBounds_toArray, List.set_cons_zero, List.set_cons_succ]
    refine wpAnyH_take (i := 7) (v := ?v8) (ops_at rfl) (by kernel_rfl) (by kernel_rfl) (by kernel_rfl) (fun _ _ _ h => h) (Or.inl ⟨by rfl, ?hy8⟩) (by assumption) ?rest8
    case hy8 => intro w' hSw; (try dsimp only at hSw); go_simp; try with_reducible rfl
    try simp only [Act.put, List.setIfInBounds_toArray, List.set_cons_zero, List.set_cons_succ]
    refine wpAnyH_take (i := 8) (v := ?v9) (ops_at rfl) (by kernel_rfl) (by kernel_rfl) (by kernel_rfl) (fun _ _ _ h => h) (Or.inl ⟨by rfl, ?hy9⟩) (by assumption) ?rest9
    case hy9 => intro w' hSw; (try dsimp only at hSw); go_simp; try with_reducible rfl
    try simp only [Act.put, List.setIfInBounds_toArray, List.set_cons_zero, List.set_cons_succ]
    refine wpAnyH_take (i := 9) (v := ?v10) (ops_at rfl) (by kernel_rfl) (by kernel_rfl) (by kernel_rfl) (fun _ _ _ h => h) (Or.inl ⟨by rfl, ?hy10⟩) (by assumption) ?rest10
    case hy10 => intro w' hSw; (try dsimp only at hSw); go_simp; try with_reducible rfl
    try simp only [Act.put, List.setIfInBounds_toArray, List.set_cons_zero, List.set_cons_succ]
    refine wpAnyH_take (i := 10) (v := undef) (ops_at rfl) (by kernel_rfl) (by kernel_rfl) (by kernel_rfl) (fun _ _ _ h => h) (Or.inr ⟨by rfl, rfl⟩) (by assumption) ?rest11
    try simp only [Act.put, List.setIfInBounds_toArray, List.set_cons_zero, List.set_cons_succ]
    refine wpAnyH_take (i := 11) (v := undef) (ops_at rfl) (by kernel_rfl) (by kernel_rfl) (by kernel_rfl) (fun _ _ _ h => h) (Or.inr ⟨by rfl, rfl⟩) (by assumption) ?rest12
    try simp only [Act.put, List.setIfInBounds_toArray, List.set_cons_zero, List.set_cons_succ]
    refine wpAnyH_take (i := 12) (v := undef) (ops_at rfl) (by kernel_rfl) (by kernel_rfl) (by kernel_rfl) (fun _ _ _ h => h) (Or.inr ⟨by rfl, rfl⟩) (by assumption) ?rest13
    try simp only [Act.put, List.setIfInBounds_toArray, List.set_cons_zero, List.set_cons_succ]
    refine wpAnyH_take (i := 13) (v := undef) (ops_at rfl) (by kernel_rfl) (by kernel_rfl) (by kernel_rfl) (fun _ _ _ h => h) (Or.inr ⟨by rfl, rfl⟩) (by assumption) ?rest14
    try simp only [Act.put, List.setIfInBounds_toArray, List.set_cons_zero, List.set_cons_succ]
    refine wpAnyH_take (i := 14) (v := undef) (ops_at rfl) (by kernel_rfl) (by kernel_rfl) (by kernel_rfl) (fun _ _ _ h => h) (Or.inr ⟨by rfl, rfl⟩) (by assumption) ?rest15
    try simp only [Act.put, List.setIfInBounds_toArray, List.set_cons_zero, List.set_cons_succ]
    refine wpAnyH_take (i := 15) (v := undef) (ops_at rfl) (by kernel_rfl) (by kernel_rfl) (by kernel_rfl) (fun _ _ _ h => h) (Or.inr ⟨by rfl, rfl⟩) (by assumption) ?rest16
    try simp only [Act.put, List.setIfInBounds_toArray, List.set_cons_zero, List.set_cons_succ]
    refine wpAnyH_take (i := 16) (v := undef) (ops_at rfl) (by kernel_rfl) (by kernel_rfl) (by kernel_rfl) (fun _ _ _ h => h) (Or.inr ⟨by rfl, rfl⟩) (by assumption) ?rest17
    try simp only [Act.put, List.setIfInBounds_toArray, List.set_cons_zero, List.set_cons_succ]
    refine wpAnyH_take (i := 17) (v := undef) (ops_at rfl) (by kernel_rfl) (by kernel_rfl) (by kernel_rfl) (fun _ _ _ h => h) (Or.inr ⟨by rfl, rfl⟩) (by assumption) ?rest18
    try simp only [Act.put, List.setIfInBounds_toArray, List.set_cons_zero, List.set_cons_succ]
    refine wpAnyH_take (i := 18) (v := undef) (ops_at rfl) (by kernel_rfl) (by kernel_rfl) (by kernel_rfl) (fun _ _ _ h => h) (Or.inr ⟨by rfl, rfl⟩) (by assumption) ?rest19
    try simp only [Act.put, List.setIfInBounds_toArray, List.set_cons_zero, List.set_cons_succ]
    refine wpAnyH_take (i := 19) (v := undef) (ops_at rfl) (by kernel_rfl) (by kernel_rfl) (by kernel_rfl) (fun _ _ _ h => h) (Or.inr ⟨by rfl, rfl⟩) (by assumption) ?rest20
    try simp only [Act.put, List.setIfInBounds_toArray, List.set_cons_zero, List.set_cons_succ]
    refine wpAnyH_take (i := 20) (v := undef) (ops_at rfl) (by kernel_rfl) (by kernel_rfl) (by kernel_rfl) (fun _ _ _ h => h) (Or.inr ⟨by rfl, rfl⟩) (by assumption) ?rest21
    try simp only [Act.put, List.setIfInBounds_toArray, List.set_cons_zero, List.set_cons_succ]
    refine wpAnyH_take (i := 21) (v := ?v22) (ops_at rfl) (by kernel_rfl) (by kernel_rfl) (by kernel_rfl) (fun _ _ _ h => h) (Or.inl ⟨by rfl, ?hy22⟩) (by assumption) ?rest22
    case hy22 => intro w' hSw; (try dsimp only at hSw); go_simp; try with_reducible rfl
    try simp only [Act.put, List.setIfInBounds_toArray, List.set_cons_zero, List.set_cons_succ]
    refine wpAnyH_done (by kernel_rfl) ?_ _
    go_wp2
    go_ret
    exact ⟨by rw [E.out]; rfl, by rw [E.out]; exact S.drew⟩
  have g0 : (age == cnt) = false := by simpa using ha
  have HE : Hid (jCompact d q fr sz used cnt age l = if (slSave d 0 q l cnt).1 = 0 then (0, (slSave d 0 q l cnt).2.nought fr sz 0, 0, cnt) else (3, (slSave d 0 q l cnt).2, used, age)) := by rw [Hid, jCompact, if_neg ha]
  clear ha
  go_enter Try.func13, Try.ntmps13
  go_wp2_with fail
  refine wp_region_held_drew (S := (fun w' => (w'.cell? ⟨gj, 1, none⟩ = some (.pointer (some ⟨gs, 0, none⟩)) ∧ w'.cell? ⟨gj, 3, none⟩ = some (.int .i64 cnt) ∧ w'.cell? ⟨gj, 4, none⟩ = some (.int .i64 age)))) (by kernel_rfl) (by exact keep S.drew) (fun hHeld => ?_)
  change wpAnyH _ _ _ _ _ 22 (Array.replicate 22 false) _ _
  refine wpAnyH_take (i := 0) (v := ?v23) (ops_at rfl) (by kernel_rfl) (by kernel_rfl) (by kernel_rfl) (fun _ _ _ h => h) (Or.inl ⟨by rfl, ?hy23⟩) (by assumption) ?rest23
  case hy23 => intro w' hSw; (try dsimp only at hSw); go_simp; try with_reducible rfl
  try simp only [Act.put, List.setIfInBounds_toArray, List.set_cons_zero, List.set_cons_succ]
  refine wpAnyH_take (i := 1) (v := ?v24) (ops_at rfl) (by kernel_rfl) (by kernel_rfl) (by kernel_rfl) (fun _ _ _ h => h) (Or.inl ⟨by rfl, ?hy24⟩) (by assumption) ?rest24
  case hy24 => intro w' hSw; (try dsimp only at hSw); go_simp; try with_reducible rfl
  try simp only [Act.put, List.setIfInBounds_toArray, List.set_cons_zero, List.set_cons_succ]
  refine wpAnyH_take (i := 2) (v := ?v25) (ops_at rfl) (by kernel_rfl) (by kernel_rfl) (by kernel_rfl) (fun _ _ _ h => h) (Or.inl ⟨by rfl, ?hy25⟩) (by assumption) ?rest25
  case hy25 => intro w' hSw; (try dsimp only at hSw); go_simp; try with_reducible rfl
  try simp only [Act.put, List.setIfInBounds_toArray, List.set_cons_zero, List.set_cons_succ]
  refine wpAnyH_take (i := 3) (v := ?v26) (ops_at rfl) (by kernel_rfl) (by kernel_rfl) (by kernel_rfl) (fun _ _ _ h => h) (Or.inl ⟨by rfl, ?hy26⟩) (by assumption) ?rest26
  case hy26 => intro w' hSw; (try dsimp only at hSw); go_simp; try with_reducible rfl
  try simp only [Act.put, List.setIfInBounds_toArray, List.set_cons_zero, List.set_cons_succ]
  refine wpAnyH_take (i := 4) (v := ?v27) (ops_at rfl) (by kernel_rfl) (by kernel_rfl) (by kernel_rfl) (fun _ _ _ h => h) (Or.inl ⟨by rfl, ?hy27⟩) (by assumption) ?rest27
  case hy27 => intro w' hSw; (try dsimp only at hSw); go_simp; try with_reducible rfl
  try simp only [Act.put, List.setIfInBounds_toArray, List.set_cons_zero, List.set_cons_succ]
  refine wpAnyH_take (i := 5) (v := ?v28) (ops_at rfl) (by kernel_rfl) (by kernel_rfl) (by kernel_rfl) (fun _ _ _ h => h) (Or.inl ⟨by rfl, ?hy28⟩) (by assumption) ?rest28
  case hy28 => intro w' hSw; (try dsimp only at hSw); go_simp; try with_reducible rfl
  try simp only [Act.put, List.setIfInBounds_toArray, List.set_cons_zero, List.set_cons_succ]
  refine wpAnyH_take (i := 6) (v := ?v29) (ops_at rfl) (by kernel_rfl) (by kernel_rfl) (by kernel_rfl) (fun _ _ _ h => h) (Or.inl ⟨by rfl, ?hy29⟩) (by assumption) ?rest29
  case hy29 => intro w' hSw; (try dsimp only at hSw); go_simp; try with_reducible rfl
  try simp only [Act.put, List.setIfInBounds_toArray, List.set_cons_zero, List.set_cons_succ]
  refine wpAnyH_take (i := 7) (v := ?v30) (ops_at rfl) (by kernel_rfl) (by kernel_rfl) (by kernel_rfl) (fun _ _ _ h => h) (Or.inl ⟨by rfl, ?hy30⟩) (by assumption) ?rest30
  case hy30 => intro w' hSw; (try dsimp only at hSw); go_simp; try with_reducible rfl
  try simp only [Act.put, List.setIfInBounds_toArray, List.set_cons_zero, List.set_cons_succ]
  refine wpAnyH_take (i := 8) (v := ?v31) (ops_at rfl) (by kernel_rfl) (by kernel_rfl) (by kernel_rfl) (fun _ _ _ h => h) (Or.inl ⟨by rfl, ?hy31⟩) (by assumption) ?rest31
  case hy31 => intro w' hSw; (try dsimp only at hSw); go_simp; try with_reducible rfl
  try simp only [Act.put, List.setIfInBounds_toArray, List.set_cons_zero, List.set_cons_succ]
  refine wpAnyH_take (i := 9) (v := ?v32) (ops_at rfl) (by kernel_rfl) (by kernel_rfl) (by kernel_rfl) (fun _ _ _ h => h) (Or.inl ⟨by rfl, ?hy32⟩) (by assumption) ?rest32
  case hy32 => intro w' hSw; (try dsimp only at hSw); go_simp; try with_reducible rfl
  try simp only [Act.put, List.setIfInBounds_toArray, List.set_cons_zero, List.set_cons_succ]
  refine wpAnyH_take (i := 10) (v := ?v33) (ops_at rfl) (by kernel_rfl) (by kernel_rfl) (by kernel_rfl) (fun _ _ _ h => h) (Or.inl ⟨by rfl, ?hy33⟩) (by assumption) ?rest33
  case hy33 => intro w' hSw; (try dsimp only at hSw); go_simp; try with_reducible rfl
  try simp only [Act.put, List.setIfInBounds_toArray, List.set_cons_zero, List.set_cons_succ]
  refine wpAnyH_take (i := 11) (v := ?v34) (ops_at rfl) (by kernel_rfl) (by kernel_rfl) (by kernel_rfl) (fun _ _ _ h => h) (Or.inl ⟨by rfl, ?hy34⟩) (by assumption) ?rest34
  case hy34 => intro w' hSw; (try dsimp only at hSw); go_simp; try with_reducible rfl
  try simp only [Act.put, List.setIfInBounds_toArray, List.set_cons_zero, List.set_cons_succ]
  refine wpAnyH_take (i := 12) (v := ?v35) (ops_at rfl) (by kernel_rfl) (by kernel_rfl) (by kernel_rfl) (fun _ _ _ h => h) (Or.inl ⟨by rfl, ?hy35⟩) (by assumption) ?rest35
  case hy35 => intro w' hSw; (try dsimp only at hSw); go_simp; try with_reducible rfl
  try simp only [Act.put, List.setIfInBounds_toArray, List.set_cons_zero, List.set_cons_succ]
  refine wpAnyH_take (i := 13) (v := ?v36) (ops_at rfl) (by kernel_rfl) (by kernel_rfl) (by kernel_rfl) (fun _ _ _ h => h) (Or.inl ⟨by rfl, ?hy36⟩) (by assumption) ?rest36
  case hy36 => intro w' hSw; (try dsimp only at hSw); go_simp; try with_reducible rfl
  try simp only [Act.put, List.setIfInBounds_toArray, List.set_cons_zero, List.set_cons_succ]
  refine wpAnyH_take (i := 14) (v := ?v37) (ops_at rfl) (by kernel_rfl) (by kernel_rfl) (by kernel_rfl) (fun _ _ _ h => h) (Or.inl ⟨by rfl, ?hy37⟩) (by assumption) ?rest37
  case hy37 => intro w' hSw; (try dsimp only at hSw); go_simp; try with_reducible rfl
  try simp only [Act.put, List.setIfInBounds_toArray, List.set_cons_zero, List.set_cons_succ]
  refine wpAnyH_take (i := 15) (v := ?v38) (ops_at rfl) (by kernel_rfl) (by kernel_rfl) (by kernel_rfl) (fun _ _ _ h => h) (Or.inl ⟨by rfl, ?hy38⟩) (by assumption) ?rest38
  case hy38 => intro w' hSw; (try dsimp only at hSw); go_simp; try with_reducible rfl
  try simp only [Act.put, List.setIfInBounds_toArray, List.set_cons_zero, List.set_cons_succ]
  refine wpAnyH_take (i := 16) (v := ?v39) (ops_at rfl) (by kernel_rfl) (by kernel_rfl) (by kernel_rfl) (fun _ _ _ h => h) (Or.inl ⟨by rfl, ?hy39⟩) (by assumption) ?rest39
  case hy39 => intro w' hSw; (try dsimp only at hSw); go_simp; try with_reducible rfl
  try simp only [Act.put, List.setIfInBounds_toArray, List.set_cons_zero, List.set_cons_succ]
  refine wpAnyH_take (i := 17) (v := ?v40) (ops_at rfl) (by kernel_rfl) (by kernel_rfl) (by kernel_rfl) (fun _ _ _ h => h) (Or.inl ⟨by rfl, ?hy40⟩) (by assumption) ?rest40
  case hy40 => intro w' hSw; (try dsimp only at hSw); go_simp; try with_reducible rfl
  try simp only [Act.put, List.setIfInBounds_toArray, List.set_cons_zero, List.set_cons_succ]
  refine wpAnyH_take (i := 18) (v := ?v41) (ops_at rfl) (by kernel_rfl) (by kernel_rfl) (by kernel_rfl) (fun _ _ _ h => h) (Or.inl ⟨by rfl, ?hy41⟩) (by assumption) ?rest41
  case hy41 => intro w' hSw; (try dsimp only at hSw); go_simp; try with_reducible rfl
  try simp only [Act.put, List.setIfInBounds_toArray, List.set_cons_zero, List.set_cons_succ]
  refine wpAnyH_ready (rs := [19]) (by kernel_rfl) (by simp) ?_
  refine AllReadyH.cons (ops_at rfl) (fun K hK => ?_) AllReadyH.nil
  go_simp
  have S1 : St w0 w.drew (cellsT gs 97 (slotC pd 0 q) :: diskT pd d :: cellsT gj 70 (jC pd (.pointer (some ⟨gs, 0, none⟩)) (.pointer (some ⟨gl, 0, none⟩)) cnt age) :: cellsT gl 99 (logC pd fr sz used) :: tl) := (S.drew.front 2 rfl).front 3 rfl
  refine (slSave_any S1 (by omega) (by omega) (by omega) a l n cap HN.out hm hcap hnil (fun W pre S' => HA.out W (pre ++ [_, _]) (by rw [List.append_assoc]; exact S')) cnt).mono ?_
  rintro e w2 ⟨rfl, S2⟩
  have S3 : St w0 w2 (cellsT gj 70 (jC pd (.pointer (some ⟨gs, 0, none⟩)) (.pointer (some ⟨gl, 0, none⟩)) cnt age) :: cellsT gl 99 (logC pd fr sz used) :: diskT pd (slSave d 0 q l cnt).2 :: cellsT gs 97 (slotC pd 0 q) :: tl) := ((S2.front 1 rfl).front 3 rfl).front 3 rfl
  refine hK.out _ _ (by exact keep S3) (fun hHeld => ?_)
  clear hK K
  try simp only [Act.put, List.setIfInBounds_toArray, List.set_cons_zero, List.set_cons_succ]
  refine wpAnyH_take (i := 20) (v := ?v43) (ops_at rfl) (by kernel_rfl) (by kernel_rfl) (by kernel_rfl) (fun _ _ _ h => h) (Or.inl ⟨by rfl, ?hy43⟩) (by assumption) ?rest43
  case hy43 => intro w' hSw; (try dsimp only at hSw); go_simp; try with_reducible rfl
  try simp only [Act.put, List.setIfInBounds_toArray, List.set_cons_zero, List.set_cons_succ]
  refine wpAnyH_take (i := 21) (v := ?v44) (ops_at rfl) (by kernel_rfl) (by kernel_rfl) (by kernel_rfl) (fun _ _ _ h => h) (Or.inl ⟨by rfl, ?hy44⟩) (by assumption) ?rest44
  case hy44 => intro w' hSw; (try dsimp only at hSw); go_simp; try with_reducible rfl
  try simp only [Act.put, List.setIfInBounds_toArray, List.set_cons_zero, List.set_cons_succ]
  refine wpAnyH_done (by kernel_rfl) ?_ _
  generalize slSave d 0 q l cnt = r at *
  obtain ⟨e1, d1⟩ := r
  simp only at S3 HE hln HLs ⊢
  clear S1 S2 S keep
  by_cases h0 : e1 = 0
  · have g1 : (e1 != 0) = false := by simpa using h0
    have E : Hid (jCompact d q fr sz used cnt age l = (0, d1.nought fr sz 0, 0, cnt)) := by rw [Hid, HE.out, if_pos h0]
    clear h0 HE
    have c2 := S3.cell 0 rfl 2 rfl
    have c3 := S3.cell 0 rfl 3 rfl
    have c4 := S3.cell 0 rfl 4 rfl
    have f4 := S3.frozen 0 rfl 4
    have S4 := S3.setCell 0 rfl 4 (.int .i64 cnt)
    have c2' := S4.cell 0 rfl 2 rfl
    go_wp2_with fail
    have S5 : St w0 (w2.setCell ⟨gj, 4, none⟩ (.int .i64 cnt)) (cellsT gl 99 (logC pd fr sz used) :: diskT pd d1 :: cellsT gj 70 (jC pd (.pointer (some ⟨gs, 0, none⟩)) (.pointer (some ⟨gl, 0, none⟩)) cnt cnt) :: cellsT gs 97 (slotC pd 0 q) :: tl) := (S4.front 2 rfl).front 2 rfl
    refine (logClear_any (by exact S5) (by rw [HLs.out]; exact hf) (by omega) (by omega)).mono ?_
    rintro e w3 ⟨rfl, S6⟩
    have S7 : St w0 w3 (cellsT gj 70 (jC pd (.pointer (some ⟨gs, 0, none⟩)) (.pointer (some ⟨gl, 0, none⟩)) cnt cnt) :: cellsT gl 99 (logC pd fr sz 0) :: diskT pd (d1.nought fr sz 0) :: cellsT gs 97 (slotC pd 0 q) :: tl) := S6.front 2 rfl
    go_wp2
    go_ret
    exact ⟨by rw [E.out]; rfl, by rw [E.out]; exact S7⟩
  · have g1 : (e1 != 0) = true := by simpa using h0
    have E : Hid (jCompact d q fr sz used cnt age l = (3, d1, used, age)) := by rw [Hid, HE.out, if_neg h0]
    clear h0 HE
    go_wp2
    go_ret
    exact ⟨by rw [E.out]; rfl, by rw [E.out]; exact S3⟩
theorem jCompact_nil (w : World) (a : Option Addr) (n c : Nat) : Calls Try.prog 13 #[.pointer none, .slice a n c] w fun e w' => e = .returned (.int .i64 1) ∧ w = w' := by
  go_enter Try.func13, Try.ntmps13
  go_wp2
  go_ret
  exact ⟨rfl, rfl⟩
end
end Go.Proofs.Ytmfbbonppmhabaa
