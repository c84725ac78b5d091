/- DialOf. DialCounts. -/
import Derived.Test.YtjfbmgndekfglaaDoorDialSame
namespace Go.Proofs.YtjfbmgndekfglaaDoor
set_option linter.unusedVariables false
set_option linter.unusedSimpArgs false
open Go.RowKit
def isTime (now : Int) : Bool := decide (0 ≤ now) && decide (now ≤ 1000000)
set_option maxRecDepth 10000 in
theorem dTime (now : Int) (w : World) : Calls Tryd.prog 7 #[.int .i64 now] w fun e w' => e = .returned (.bool (isTime now)) ∧ w' = w := by
  by_cases h0 : 0 ≤ now
  · by_cases h1 : now ≤ 1000000
    · have d0 : decide (0 ≤ now) = true := decide_eq_true h0
      have d1 : decide (now ≤ 1000000) = true := decide_eq_true h1
      have E : Hid (isTime now = true) := by rw [Hid, isTime, d0, d1]; rfl
      clear h0 h1
      go_enter Tryd.func7, Tryd.ntmps7
      go_wp2
      go_ret
      exact ⟨by rw [E.out]; rfl, rfl⟩
    · have d0 : decide (0 ≤ now) = true := decide_eq_true h0
      have d1 : decide (now ≤ 1000000) = false := decide_eq_false h1
      have E : Hid (isTime now = false) := by rw [Hid, isTime, d0, d1]; rfl
      clear h0 h1
      go_enter Tryd.func7, Tryd.ntmps7
      go_wp2
      go_ret
      exact ⟨by rw [E.out]; rfl, rfl⟩
  · have d0 : decide (0 ≤ now) = false := decide_eq_false h0
    have E : Hid (isTime now = false) := by rw [Hid, isTime, d0]; rfl
    clear h0
    go_enter Tryd.func7, Tryd.ntmps7
    go_wp2
    go_ret
    exact ⟨by rw [E.out]; rfl, rfl⟩
structure DialF (c : CF) (s : STA) (n : Nat) : Prop where
  q : c.queues = n
  q1 : 1 ≤ n
  q3 : n ≤ 3
  nn : (s.nn : Int) = c.nodes
  n6 : s.nn ≤ 6
  jn : s.jn ≤ 24
  job : ∀ j ∈ s.J, j.calm ∧ 0 ≤ j.queue ∧ j.queue < n ∧ 0 ≤ j.phase ∧ j.phase ≤ 4
theorem right_dial {c : CF} {s : STA} {w : World} (hs : s.At w) (h : rightB c s = true) : ∃ n : Nat, DialF c s n := by
  unfold rightB at h
  simp only [Bool.and_eq_true] at h
  obtain ⟨hm, hn, hj, hg, hp, hmo, ht, hst, -⟩ := h
  obtain ⟨h1, h2⟩ := (mayB_ok hm).queues
  obtain ⟨h3, h4⟩ := (mayB_ok hm).nodes
  have hn2 : (s.nn : Int) = c.nodes := by simpa using hn
  have hj2 : s.jn ≤ 24 := by simpa using hj
  refine ⟨c.queues.toNat, by omega, by omega, by omega, hn2, by omega, hj2, ?_⟩
  intro j hjm
  obtain ⟨i, hi, rfl⟩ := List.getElem_of_mem hjm
  have := standsK_at hst i hi (by rw [hs.jn] at hi; exact hi)
  unfold standsB at this
  simp only [Bool.and_eq_true] at this
  obtain ⟨ha, hph, -, hsi, hun, -⟩ := this
  unfold askedB at ha
  simp only [Bool.and_eq_true] at ha
  obtain ⟨hq, -, -, -, hw, -⟩ := ha
  have := inR_yes hq
  have := inR_yes hph
  have := inR_yes hsi
  have := inR_yes hun
  have := inR_yes hw
  exact ⟨⟨by omega, by omega, by omega, by omega, by omega, by omega⟩, by omega, by omega, by omega, by omega⟩
theorem qRows_at {w0 w : World} {l : List Thing} (S : St w0 w l) (k : Nat) {gq n : Nat} {J : List JB} (hk : l[k]? = some (cellsT gq 37 (qCells J n J.length))) : AtG eQ w (some ⟨gq, 0, none⟩) (qRows J n) := by
  intro i hi
  have hi2 : i < n := by simpa [qRows] using hi
  refine ⟨rfl, fun j hj => ?_⟩
  have hj5 : j < 5 := hj
  have hv : (qCells J n J.length)[i * 5 + j]? = some (.int .i64 (qCnt J J.length (i * 5 + j))) := by
    unfold qCells
    rw [List.getElem?_map, List.getElem?_range (by omega)]
    rfl
  have := S.cell k hk (i * 5 + j) hv
  rw [show eQ.s = 5 from rfl]
  simp only [adr, Option.getD_some, Addr.add_lit, Nat.zero_add]
  rw [this]
  have e : eQ.enc (qRows J n)[i] = rowC J J.length i := by
    have e1 : (qRows J n)[i] = qRow J J.length i := by simp [qRows]
    rw [e1]
    rfl
  rw [e]
  unfold rowC
  rw [List.getElem?_map, List.getElem?_range hj5]
  rfl
theorem qRows_len (J : List JB) (n : Nat) : (qRows J n).length = n := by simp [qRows]
set_option maxRecDepth 10000 in
set_option maxHeartbeats 3200000 in
theorem dialOf_law (c : CF) (s : STA) (now : Int) (w : World) (hs : s.At w) (hal : ∀ wx, Below w.heap.size w wx → Calls Tryd.prog 5 #[] wx fun e w' => e = .returned (.bool true) ∧ Below wx.heap.size wx w') : Calls Tryd.prog 3 #[.agg #[.int .i64 c.nodes, .int .i64 c.queues, .int .i64 c.quota, .int .i64 c.wave, .int .i64 c.lease, .int .i64 c.retry, .int .i64 c.deadline, .int .i64 c.room, .int .i64 c.disk], .agg #[.slice s.na s.nn s.nc, .slice s.ja s.jn s.jc, .int .i64 s.goal, .int .i64 s.prior, .int .i64 s.mode, .int .i64 s.term], .int .i64 now] w fun e w' => e = .returned (.bool true) ∧ Below w.heap.size w w' := by
  have S1 : St w _ [cellsT w.heap.size 23 c.cs, cellsT (w.heap.size + 1) 27 s.cs] := ((St.start w).newAt 23 #[.int .i64 c.nodes, .int .i64 c.queues, .int .i64 c.quota, .int .i64 c.wave, .int .i64 c.lease, .int .i64 c.retry, .int .i64 c.deadline, .int .i64 c.room, .int .i64 c.disk] w.heap.size rfl).newAt 27 #[.slice s.na s.nn s.nc, .slice s.ja s.jn s.jc, .int .i64 s.goal, .int .i64 s.prior, .int .i64 s.mode, .int .i64 s.term] (w.heap.size + 1) (alloc_size _ _)
  have HS := hid hs
  have HT := hid hal
  clear hs hal
  go_enter Tryd.func3, Tryd.ntmps3
  go_wp2_with fail
  generalize w.heap.size + 1 = bs at *
  generalize w.heap.size = bc at S1 ⊢
  generalize (w.alloc _).alloc _ = w1 at *
  refine (HT.out _ S1.fin).mono ?_
  rintro e w2 ⟨rfl, hb2⟩
  have S2 := S1.grow hb2
  clear S1 hb2
  obtain ⟨y0, y1, y2, y3, y4, y5⟩ := S2.sC 1 rfl
  obtain ⟨x0, x1, x2, x3, x4, x5, x6, x7, x8⟩ := S2.cfC 0 rfl
  go_wp2_with fail
  refine (bxRight _ c s (HS.out.all S2.fin)).mono ?_
  rintro e w3 ⟨rfl, hb3⟩
  have S3 := S2.grow hb3
  clear y0 y1 y2 y3 y4 y5 x0 x1 x2 x3 x4 x5 x6 x7 x8 S2 hb3
  generalize hR : rightB c s = b
  cases b
  · clear hR
    go_wp2
    go_ret
    exact ⟨rfl, S3.fin⟩
  obtain ⟨n, hF⟩ := right_dial HS.out hR
  have HF := hid hF
  clear hR hF
  go_wp2_with fail
  refine (dTime now _).mono ?_
  rintro e w4 ⟨rfl, rfl⟩
  generalize hR : isTime now = b
  cases b
  · clear hR
    go_wp2
    go_ret
    exact ⟨rfl, S3.fin⟩
  have hnow : 0 ≤ now ∧ now ≤ 1000000 := by
    unfold isTime at hR
    simpa using hR
  obtain ⟨hn0, hn1⟩ := hnow
  clear hR
  have HQ := hid HF.out.q
  have hn1' := HF.out.q1
  have hn3' := HF.out.q3
  obtain ⟨y0, y1, y2, y3, y4, y5⟩ := S3.sC 1 rfl
  obtain ⟨x0, x1, x2, x3, x4, x5, x6, x7, x8⟩ := S3.cfC 0 rfl
  rw [HQ.out] at x1
  have keep : ∀ {w' : World}, St w w' [cellsT bc 23 c.cs, cellsT bs 27 s.cs] → (w'.cell? ⟨bs, 0, none⟩ = some (.slice s.na s.nn s.nc) ∧ w'.cell? ⟨bs, 1, none⟩ = some (.slice s.ja s.jn s.jc) ∧ w'.cell? ⟨bs, 2, none⟩ = some (.int .i64 s.goal) ∧ w'.cell? ⟨bs, 3, none⟩ = some (.int .i64 s.prior) ∧ w'.cell? ⟨bs, 4, none⟩ = some (.int .i64 s.mode) ∧ w'.cell? ⟨bs, 5, none⟩ = some (.int .i64 s.term) ∧ w'.cell? ⟨bc, 0, none⟩ = some (.int .i64 c.nodes) ∧ w'.cell? ⟨bc, 1, none⟩ = some (.int .i64 (n:Int)) ∧ w'.cell? ⟨bc, 2, none⟩ = some (.int .i64 c.quota) ∧ w'.cell? ⟨bc, 3, none⟩ = some (.int .i64 c.wave) ∧ w'.cell? ⟨bc, 4, none⟩ = some (.int .i64 c.lease) ∧ w'.cell? ⟨bc, 5, none⟩ = some (.int .i64 c.retry) ∧ w'.cell? ⟨bc, 6, none⟩ = some (.int .i64 c.deadline) ∧ w'.cell? ⟨bc, 7, none⟩ = some (.int .i64 c.room) ∧ w'.cell? ⟨bc, 8, none⟩ = some (.int .i64 c.disk)) := fun S => by
    obtain ⟨p0, p1, p2, p3, p4, p5⟩ := S.sC 1 rfl
    obtain ⟨q0, q1, q2, q3, q4, q5, q6, q7, q8⟩ := S.cfC 0 rfl
    rw [HQ.out] at q1
    exact ⟨p0, p1, p2, p3, p4, p5, q0, q1, q2, q3, q4, q5, q6, q7, q8⟩
  go_wp2_with fail
  refine wp_region_held_drew (S := (fun w' => (w'.cell? ⟨bs, 0, none⟩ = some (.slice s.na s.nn s.nc) ∧ w'.cell? ⟨bs, 1, none⟩ = some (.slice s.ja s.jn s.jc) ∧ w'.cell? ⟨bs, 2, none⟩ = some (.int .i64 s.goal) ∧ w'.cell? ⟨bs, 3, none⟩ = some (.int .i64 s.prior) ∧ w'.cell? ⟨bs, 4, none⟩ = some (.int .i64 s.mode) ∧ w'.cell? ⟨bs, 5, none⟩ = some (.int .i64 s.term) ∧ w'.cell? ⟨bc, 0, none⟩ = some (.int .i64 c.nodes) ∧ w'.cell? ⟨bc, 1, none⟩ = some (.int .i64 (n:Int)) ∧ w'.cell? ⟨bc, 2, none⟩ = some (.int .i64 c.quota) ∧ w'.cell? ⟨bc, 3, none⟩ = some (.int .i64 c.wave) ∧ w'.cell? ⟨bc, 4, none⟩ = some (.int .i64 c.lease) ∧ w'.cell? ⟨bc, 5, none⟩ = some (.int .i64 c.retry) ∧ w'.cell? ⟨bc, 6, none⟩ = some (.int .i64 c.deadline) ∧ w'.cell? ⟨bc, 7, none⟩ = some (.int .i64 c.room) ∧ w'.cell? ⟨bc, 8, none⟩ = some (.int .i64 c.disk)))) (by kernel_rfl) (by exact keep S3.drew) (fun hHeld => ?_)
  change wpAnyH _ _ _ _ _ 10 (Array.replicate 10 false) _ _
  refine wpAnyH_take (i := 0) (v := ?v1) (ops_at rfl) (by kernel_rfl) (by kernel_rfl) (by kernel_rfl) (fun _ _ _ h => h) (Or.inl ⟨by rfl, ?hy1⟩) (by assumption) ?rest1
  case hy1 => intro w' hSw; (try dsimp only at hSw); go_simp; try with_reducible rfl
  try simp only [Act.put, List.setIfInBounds_toArray, List.set_cons_zero, List.set_cons_succ]
  refine wpAnyH_take (i := 1) (v := ?v2) (ops_at rfl) (by kernel_rfl) (by kernel_rfl) (by kernel_rfl) (fun _ _ _ h => h) (Or.inl ⟨by rfl, ?hy2⟩) (by assumption) ?rest2
  case hy2 => intro w' hSw; (try dsimp only at hSw); go_simp; try with_reducible rfl
  try simp only [Act.put, List.setIfInBounds_toArray, List.set_cons_zero, List.set_cons_succ]
  refine wpAnyH_take (i := 2) (v := ?v3) (ops_at rfl) (by kernel_rfl) (by kernel_rfl) (by kernel_rfl) (fun _ _ _ h => h) (Or.inl ⟨by rfl, ?hy3⟩) (by assumption) ?rest3
  case hy3 => intro w' hSw; (try dsimp only at hSw); go_simp; try with_reducible rfl
  try simp only [Act.put, List.setIfInBounds_toArray, List.set_cons_zero, List.set_cons_succ]
  refine wpAnyH_take (i := 4) (v := ?v4) (ops_at rfl) (by kernel_rfl) (by kernel_rfl) (by kernel_rfl) (fun _ _ _ h => h) (Or.inl ⟨by rfl, ?hy4⟩) (by assumption) ?rest4
  case hy4 => intro w' hSw; (try dsimp only at hSw); go_simp; try with_reducible rfl
  try simp only [Act.put, List.setIfInBounds_toArray, List.set_cons_zero, List.set_cons_succ]
  refine wpAnyH_take (i := 5) (v := ?v5) (ops_at rfl) (by kernel_rfl) (by kernel_rfl) (by kernel_rfl) (fun _ _ _ h => h) (Or.inl ⟨by rfl, ?hy5⟩) (by assumption) ?rest5
  case hy5 => intro w' hSw; (try dsimp only at hSw); go_simp; try with_reducible rfl
  try simp only [Act.put, List.setIfInBounds_toArray, List.set_cons_zero, List.set_cons_succ]
  refine wpAnyH_take (i := 6) (v := ?v6) (ops_at rfl) (by kernel_rfl) (by kernel_rfl) (by kernel_rfl) (fun _ _ _ h => h) (Or.inl ⟨by rfl, ?hy6⟩) (by assumption) ?rest6
  case hy6 => intro w' hSw; (try dsimp only at hSw); go_simp; try with_reducible rfl
  try simp only [Act.put, List.setIfInBounds_toArray, List.set_cons_zero, List.set_cons_succ]
  refine wpAnyH_ready (rs := [3]) (by kernel_rfl) (by simp) ?_
  refine AllReadyH.cons (ops_at rfl) (fun K hK => ?_) AllReadyH.nil
  go_simp
  refine (dialOf c s now _ n HF.out.q hn1' hn3' (HS.out.all S3.drew.fin) (by have := HF.out.n6; omega) (by have := HF.out.jn; omega) hn0 hn1 HF.out.job).mono ?_
  rintro e w5 ⟨gq, he, S5⟩
  have S6 := S3.drew.grow S5.fin
  have HR := hid (qRows_at S5 0 (by rw [show s.J.length = s.jn from HS.out.jn]; rfl))
  obtain ⟨d, hd⟩ : ∃ d, dialD s now = d := ⟨_, rfl⟩
  rw [hd] at he
  have he2 : e = .returned (.agg #[.int .i64 d.up, .int .i64 d.cord, .int .i64 d.mov, .int .i64 d.beh, .int .i64 d.free, .slice (some ⟨gq, 0, none⟩) n n, .int .i64 d.end_, .int .i64 d.share]) := he
  subst he2
  clear he S5
  refine hK.out _ _ (by exact keep S6) (fun hHeld => ?_)
  clear hK K
  try simp only [Act.put, List.setIfInBounds_toArray, List.set_cons_zero, List.set_cons_succ]
  refine wpAnyH_ready (rs := [7]) (by kernel_rfl) (by simp) ?_
  refine AllReadyH.cons (ops_at rfl) (fun K hK => ?_) AllReadyH.nil
  go_simp
  refine (rDialOf c s now _ n hn1' hn3' (HS.out.all S6.fin) (by have := HF.out.n6; omega) (by have := HF.out.jn; omega) hn0 hn1 HF.out.job).mono ?_
  rintro e w6 ⟨a, ca, he, S7⟩
  have S8 := S6.grow S7.fin
  have HA := hid (S7.slG eQok 0 rfl).2.2.2.2
  rw [hd] at he
  have he2 : e = .returned (.agg #[.int .i64 d.up, .int .i64 d.cord, .int .i64 d.mov, .int .i64 d.beh, .int .i64 d.free, .slice a n ca, .int .i64 d.end_, .int .i64 d.share]) := he
  subst he2
  have HR2 := hid (HR.out.all eQok S7.fin)
  clear he S7 hd
  refine hK.out _ _ (by exact keep S8) (fun hHeld => ?_)
  clear hK K
  try simp only [Act.put, List.setIfInBounds_toArray, List.set_cons_zero, List.set_cons_succ]
  refine wpAnyH_ready (rs := [8]) (by kernel_rfl) (by simp) ?_
  refine AllReadyH.cons (ops_at rfl) (fun K hK => ?_) AllReadyH.nil
  go_simp
  refine (r27Same d _ a n n ca (qRows s.J n) _ (qRows_len _ _) (by omega) HR2.out HA.out).mono ?_
  rintro e w7 ⟨rfl, hb7⟩
  have S9 := S8.grow hb7
  refine hK.out _ _ (by exact keep S9) (fun hHeld => ?_)
  clear hK K
  try simp only [Act.put, List.setIfInBounds_toArray, List.set_cons_zero, List.set_cons_succ]
  refine wpAnyH_take (i := 9) (v := ?v10) (ops_at rfl) (by kernel_rfl) (by kernel_rfl) (by kernel_rfl) (fun _ _ _ h => h) (Or.inl ⟨by rfl, ?hy10⟩) (by assumption) ?rest10
  case hy10 => intro w' hSw; (try dsimp only at hSw); go_simp; try with_reducible rfl
  try simp only [Act.put, List.setIfInBounds_toArray, List.set_cons_zero, List.set_cons_succ]
  refine wpAnyH_done (by kernel_rfl) ?_ _
  go_wp2
  go_ret
  exact ⟨rfl, S9.fin⟩
end Go.Proofs.YtjfbmgndekfglaaDoor

namespace Go.Proofs.YtjfbmgndekfglaaDoor
set_option linter.unusedVariables false
set_option linter.unusedSimpArgs false
open Go.RowKit
def sumK (J : List JB) (k : Nat) : Nat → Int
  | 0 => 0
  | m + 1 => sumK J k m + qCnt J k m
theorem sumK_le (J : List JB) (k : Nat) : ∀ m, 0 ≤ sumK J k m ∧ sumK J k m ≤ m * k
  | 0 => by simp [sumK]
  | m + 1 => by
    have := sumK_le J k m
    have := qCnt_le J m k
    rw [sumK, Int.natCast_add, Int.add_mul]
    omega
theorem sumK_zero (J : List JB) : ∀ m, sumK J 0 m = 0
  | 0 => rfl
  | m + 1 => by rw [sumK, sumK_zero J m]; rfl
theorem sumK_step (J : List JB) (k : Nat) (h : k < J.length) : ∀ m, sumK J (k + 1) m = sumK J k m + (if jobAt J[k] < m then 1 else 0)
  | 0 => by simp [sumK]
  | m + 1 => by
    have ih := sumK_step J k h m
    rw [sumK, sumK, ih, qCnt, List.getElem?_eq_getElem h]
    simp only
    by_cases h1 : jobAt J[k] = m
    · rw [if_neg (by omega), if_pos h1, if_pos (by omega)]; omega
    · by_cases h2 : jobAt J[k] < m
      · rw [if_pos h2, if_neg h1, if_pos (by omega)]; omega
      · rw [if_neg h2, if_neg h1, if_neg (by omega)]; omega
theorem sumK_all (J : List JB) (m : Nat) (h : ∀ j ∈ J, jobAt j < m) : ∀ k, k ≤ J.length → sumK J k m = k
  | 0, _ => sumK_zero J m
  | k + 1, hk => by
    rw [sumK_step J k (by omega), sumK_all J m h k (by omega), if_pos (h _ (List.getElem_mem _))]
    rfl
theorem qRows_cell {w : World} {gq n : Nat} {J : List JB} (h : AtG eQ w (some ⟨gq, 0, none⟩) (qRows J n)) (i k : Nat) (hi : i < n) (hk : k < 5) : w.cell? ⟨gq, i * 5 + k, none⟩ = some (.int .i64 (qCnt J J.length (i * 5 + k))) := by
  have hl : i < (qRows J n).length := by rw [qRows_len]; exact hi
  have := (h i hl).2 k hk
  rw [show eQ.s = 5 from rfl] at this
  simp only [adr, Option.getD_some, Addr.add_lit, Nat.zero_add] at this
  rw [this]
  have e1 : (qRows J n)[i] = qRow J J.length i := by simp [qRows]
  rw [e1]
  show (rowC J J.length i)[k]? = _
  unfold rowC
  rw [List.getElem?_map, List.getElem?_range hk]
  rfl
def otherN (s : STA) (x : ND) : Bool := x.up && (x.version != s.meant)
theorem bI_split (u v : Bool) : bI (u && !v) + bI (u && v) = bI u := by cases u <;> cases v <;> rfl
theorem other_right (s : STA) : ∀ k, cntP (otherN s) s.N k + cntP (rightN s) s.N k = cntP (·.up) s.N k
  | 0 => rfl
  | k + 1 => by
    have := other_right s k
    rw [cntP, cntP, cntP]
    cases s.N[k]? with
    | none => simpa using this
    | some x =>
      have h : bI (x.up && !(x.version == s.meant)) + bI (x.up && (x.version == s.meant)) = bI x.up := bI_split _ _
      change (cntP (otherN s) s.N k + bI (x.up && !(x.version == s.meant))) + (cntP (rightN s) s.N k + bI (x.up && (x.version == s.meant))) = cntP (·.up) s.N k + bI x.up
      omega
theorem endK_ge (s : STA) (now : Int) : ∀ k, now ≤ endK s now k
  | 0 => Int.le_refl _
  | k + 1 => by have := endK_ge s now k; rw [endK]; omega
theorem share_law {r u o : Int} (h0 : 0 ≤ r) (h1 : o + r = u) (h2 : 0 ≤ o) : 0 ≤ shareP r u ∧ (shareP r u = 100 ↔ o = 0) := by
  unfold shareP
  by_cases hu : 0 < u
  · rw [if_pos hu]
    refine ⟨Int.ediv_nonneg (by omega) (by omega), ?_⟩
    constructor
    · intro h
      have := Int.ediv_mul_le (r * 100) (show u ≠ 0 by omega)
      rw [h] at this
      omega
    · intro h
      rw [show r = u by omega, Int.mul_comm, Int.mul_ediv_cancel _ (by omega)]
  · rw [if_neg hu]
    exact ⟨by omega, ⟨fun _ => by omega, fun _ => rfl⟩⟩
set_option maxRecDepth 10000 in
set_option maxHeartbeats 6400000 in
theorem dialCounts_law (c : CF) (s : STA) (now : Int) (w : World) (hs : s.At w) (hal : ∀ wx, Below w.heap.size w wx → Calls Tryd.prog 5 #[] wx fun e w' => e = .returned (.bool true) ∧ Below wx.heap.size wx w') : Calls Tryd.prog 4 #[.agg #[.int .i64 c.nodes, .int .i64 c.queues, .int .i64 c.quota, .int .i64 c.wave, .int .i64 c.lease, .int .i64 c.retry, .int .i64 c.deadline, .int .i64 c.room, .int .i64 c.disk], .agg #[.slice s.na s.nn s.nc, .slice s.ja s.jn s.jc, .int .i64 s.goal, .int .i64 s.prior, .int .i64 s.mode, .int .i64 s.term], .int .i64 now] w fun e w' => e = .returned (.bool true) ∧ Below w.heap.size w w' := by
  have S1 : St w _ [cellsT w.heap.size 23 c.cs, cellsT (w.heap.size + 1) 27 s.cs] := ((St.start w).newAt 23 #[.int .i64 c.nodes, .int .i64 c.queues, .int .i64 c.quota, .int .i64 c.wave, .int .i64 c.lease, .int .i64 c.retry, .int .i64 c.deadline, .int .i64 c.room, .int .i64 c.disk] w.heap.size rfl).newAt 27 #[.slice s.na s.nn s.nc, .slice s.ja s.jn s.jc, .int .i64 s.goal, .int .i64 s.prior, .int .i64 s.mode, .int .i64 s.term] (w.heap.size + 1) (alloc_size _ _)
  have HS := hid hs
  have HT := hid hal
  clear hs hal
  go_enter Tryd.func4, Tryd.ntmps4
  go_wp2_with fail
  generalize w.heap.size + 1 = bs at *
  generalize w.heap.size = bc at S1 ⊢
  generalize (w.alloc _).alloc _ = w1 at *
  refine (HT.out _ S1.fin).mono ?_
  rintro e w2 ⟨rfl, hb2⟩
  have S2 := S1.grow hb2
  clear S1 hb2
  obtain ⟨y0, y1, y2, y3, y4, y5⟩ := S2.sC 1 rfl
  obtain ⟨x0, x1, x2, x3, x4, x5, x6, x7, x8⟩ := S2.cfC 0 rfl
  go_wp2_with fail
  refine (bxRight _ c s (HS.out.all S2.fin)).mono ?_
  rintro e w3 ⟨rfl, hb3⟩
  have S3 := S2.grow hb3
  clear y0 y1 y2 y3 y4 y5 x0 x1 x2 x3 x4 x5 x6 x7 x8 S2 hb3
  generalize hR : rightB c s = b
  cases b
  · clear hR
    go_wp2
    go_ret
    exact ⟨rfl, S3.fin⟩
  obtain ⟨n, hF⟩ := right_dial HS.out hR
  have HF := hid hF
  clear hR hF
  go_wp2_with fail
  refine (dTime now _).mono ?_
  rintro e w4 ⟨rfl, rfl⟩
  generalize hR : isTime now = b
  cases b
  · clear hR
    go_wp2
    go_ret
    exact ⟨rfl, S3.fin⟩
  have hnow : 0 ≤ now ∧ now ≤ 1000000 := by
    unfold isTime at hR
    simpa using hR
  obtain ⟨hn0, hn1⟩ := hnow
  clear hR
  have HQ := hid HF.out.q
  have hn1' := HF.out.q1
  have hn3' := HF.out.q3
  obtain ⟨y0, y1, y2, y3, y4, y5⟩ := S3.sC 1 rfl
  obtain ⟨x0, x1, x2, x3, x4, x5, x6, x7, x8⟩ := S3.cfC 0 rfl
  rw [HQ.out] at x1
  go_wp2_with fail
  clear y0 y1 y2 y3 y4 y5 x0 x1 x2 x3 x4 x5 x6 x7 x8
  refine (dialOf c s now _ n HF.out.q hn1' hn3' (HS.out.all S3.fin) (by have := HF.out.n6; omega) (by have := HF.out.jn; omega) hn0 hn1 HF.out.job).mono ?_
  rintro e w5 ⟨gq, he, S5⟩
  have S6 := S3.grow S5.fin
  have HR := hid (qRows_at S5 0 (by rw [show s.J.length = s.jn from HS.out.jn]; rfl))
  obtain ⟨d, hd⟩ : ∃ d, dialD s now = d := ⟨_, rfl⟩
  rw [hd] at he
  have he2 : e = .returned (.agg #[.int .i64 d.up, .int .i64 d.cord, .int .i64 d.mov, .int .i64 d.beh, .int .i64 d.free, .slice (some ⟨gq, 0, none⟩) n n, .int .i64 d.end_, .int .i64 d.share]) := he
  subst he2
  have HD := hid hd
  clear he hd S3
  have S7 : St w _ [cellsT bc 23 c.cs, cellsT bs 27 s.cs, cellsT w5.heap.size 34 (DI.cs d (.slice (some ⟨gq, 0, none⟩) n n))] := S6.newAt 34 #[.int .i64 d.up, .int .i64 d.cord, .int .i64 d.mov, .int .i64 d.beh, .int .i64 d.free, .slice (some ⟨gq, 0, none⟩) n n, .int .i64 d.end_, .int .i64 d.share] w5.heap.size rfl
  have HR2 := hid (HR.out.all eQok ((St.start w5).alloc (.cells #[.int .i64 d.up, .int .i64 d.cord, .int .i64 d.mov, .int .i64 d.beh, .int .i64 d.free, .slice (some ⟨gq, 0, none⟩) n n, .int .i64 d.end_, .int .i64 d.share] 34)).fin)
  clear HR S5 S6
  go_wp2_with fail
  generalize w5.heap.size = g7 at *
  generalize w5.alloc _ = w8 at *
  have keep : ∀ {w' : World}, St w w' [cellsT bc 23 c.cs, cellsT bs 27 s.cs, cellsT g7 34 (DI.cs d (.slice (some ⟨gq, 0, none⟩) n n))] → ((w'.cell? ⟨bs, 0, none⟩ = some (.slice s.na s.nn s.nc) ∧ w'.cell? ⟨bs, 1, none⟩ = some (.slice s.ja s.jn s.jc) ∧ w'.cell? ⟨bs, 2, none⟩ = some (.int .i64 s.goal) ∧ w'.cell? ⟨bs, 3, none⟩ = some (.int .i64 s.prior) ∧ w'.cell? ⟨bs, 4, none⟩ = some (.int .i64 s.mode) ∧ w'.cell? ⟨bs, 5, none⟩ = some (.int .i64 s.term)) ∧ w'.cell? ⟨bc, 0, none⟩ = some (.int .i64 c.nodes) ∧ w'.cell? ⟨bc, 1, none⟩ = some (.int .i64 (n : Int)) ∧ w'.cell? ⟨g7, 0, none⟩ = some (.int .i64 d.up) ∧ w'.cell? ⟨g7, 1, none⟩ = some (.int .i64 d.cord) ∧ w'.cell? ⟨g7, 2, none⟩ = some (.int .i64 d.mov) ∧ w'.cell? ⟨g7, 3, none⟩ = some (.int .i64 d.beh) ∧ w'.cell? ⟨g7, 4, none⟩ = some (.int .i64 d.free) ∧ w'.cell? ⟨g7, 5, none⟩ = some (.slice (some ⟨gq, 0, none⟩) n n) ∧ w'.cell? ⟨g7, 6, none⟩ = some (.int .i64 d.end_) ∧ w'.cell? ⟨g7, 7, none⟩ = some (.int .i64 d.share)) := fun S => by
    obtain ⟨q0, q1, q2, q3, q4, q5, q6, q7, q8⟩ := S.cfC 0 rfl
    rw [HQ.out] at q1
    exact ⟨S.sC 1 rfl, q0, q1, S.cell 2 rfl 0 rfl, S.cell 2 rfl 1 rfl, S.cell 2 rfl 2 rfl, S.cell 2 rfl 3 rfl, S.cell 2 rfl 4 rfl, S.cell 2 rfl 5 rfl, S.cell 2 rfl 6 rfl, S.cell 2 rfl 7 rfl⟩
  go_loopw [8, 10] (fun r i wr => ∃ (k : Nat), k ≤ n ∧ r = .int .i64 (sumK s.J s.J.length (k * 5)) ∧ i = .int .i64 k ∧ wr = w8) (fun _ i _ => n - (intOf i).toNat)
  case atStart => exact ⟨0, Nat.zero_le _, rfl, rfl, rfl⟩
  case round =>
    obtain ⟨k, hk, rfl, rfl, rfl⟩ := hrel
    have c5 := S7.cell 2 rfl 5 rfl
    by_cases hlt : k < n
    case neg =>
      have d1 : decide ((k : Int) < (n : Int)) = false := decide_eq_false (by omega)
      have d1n : decide (k < n) = false := decide_eq_false hlt
      have HSum : Hid (sumK s.J s.J.length (k * 5) = (s.jn : Int)) := by
        rw [Hid, sumK_all s.J (k * 5) ?_ s.J.length (Nat.le_refl _), HS.out.jn]
        intro j hj
        obtain ⟨-, h1, h2, h3, h4⟩ := HF.out.job j hj
        unfold jobAt
        omega
      rw [HSum.out]
      go_wp2_with fail
      clear c5
      go_loopw [9, 12] (fun r i wx => ∃ k : Nat, k ≤ s.nn ∧ r = .int .i64 (cntP (otherN s) s.N k) ∧ i = .int .i64 k ∧ St w wx [cellsT bc 23 c.cs, cellsT bs 27 s.cs, cellsT g7 34 (DI.cs d (.slice (some ⟨gq, 0, none⟩) n n))]) (fun _ i _ => s.nn - (intOf i).toNat)
      case atStart => exact ⟨0, Nat.zero_le _, rfl, rfl, S7⟩
      case round =>
        obtain ⟨m, hm, rfl, rfl, Sm⟩ := hrel
        clear S7
        obtain ⟨z0, z1, z2, z3, z4, z5⟩ := Sm.sC 1 rfl
        by_cases hml : m < s.nn
        case neg =>
          have d3 : decide ((m : Int) < (s.nn : Int)) = false := decide_eq_false (by omega)
          have d3n : decide (m < s.nn) = false := decide_eq_false hml
          have hmn : m = s.nn := by omega
          have hor := other_right s m
          obtain ⟨o1, o2⟩ := cntP_le (otherN s) s.N m
          obtain ⟨r1, r2⟩ := cntP_le (rightN s) s.N m
          obtain ⟨u1, u2⟩ := cntP_le (·.up) s.N m
          obtain ⟨sh1, sh2⟩ := share_law r1 hor o1
          have hfr := cntP_sub (p := (·.free)) (q := (·.up)) (fun x h => by unfold ND.free at h; rw [Bool.and_eq_true] at h; exact h.1) s.N m
          have hnn := HF.out.nn
          have hd := HD.out
          unfold dialD at hd
          rw [← hmn] at hd
          have q1 : d.up = cntP (·.up) s.N m := by rw [← hd]
          have q2 : d.free = cntP (·.free) s.N m := by rw [← hd]
          have q3 : d.end_ = endK s now s.jn := by rw [← hd]
          have q4 : d.share = shareP (cntP (rightN s) s.N m) (cntP (·.up) s.N m) := by rw [← hd]
          have q5 : d.beh = ((behK s s.nn).length : Int) := by rw [← hd, hmn]
          have hen := endK_ge s now s.jn
          have a1 : decide (now ≤ d.end_) = true := decide_eq_true (by omega)
          have a2 : decide (0 ≤ d.share) = true := decide_eq_true (by omega)
          have a3 : decide (d.up ≤ c.nodes) = true := decide_eq_true (by omega)
          have a4 : decide (d.free ≤ d.up) = true := decide_eq_true (by omega)
          have a5 : (d.beh == ((behK s s.nn).length : Int)) = true := by simpa using q5
          obtain ⟨sb, hsb⟩ : ∃ sb, (cntP (otherN s) s.N m == 0) = sb := ⟨_, rfl⟩
          have a6 : (d.share == 100) = sb := by
            rw [← hsb, q4, Bool.eq_iff_iff]
            simpa using sh2
          have a7 : (sb == sb) = true := by simp
          have a8 : ((s.jn : Int) == (s.jn : Int)) = true := by simp
          have a9 : ((n : Int) == (n : Int)) = true := by simp
          generalize cntP (otherN s) s.N m = ot at *
          clear hmn hor o1 o2 r1 r2 u1 u2 sh1 sh2 hfr hnn hd q1 q2 q3 q4 q5 hen
          go_wp2_with fail
          refine wp_region_held_drew (S := (fun w' => ((w'.cell? ⟨bs, 0, none⟩ = some (.slice s.na s.nn s.nc) ∧ w'.cell? ⟨bs, 1, none⟩ = some (.slice s.ja s.jn s.jc) ∧ w'.cell? ⟨bs, 2, none⟩ = some (.int .i64 s.goal) ∧ w'.cell? ⟨bs, 3, none⟩ = some (.int .i64 s.prior) ∧ w'.cell? ⟨bs, 4, none⟩ = some (.int .i64 s.mode) ∧ w'.cell? ⟨bs, 5, none⟩ = some (.int .i64 s.term)) ∧ w'.cell? ⟨bc, 0, none⟩ = some (.int .i64 c.nodes) ∧ w'.cell? ⟨bc, 1, none⟩ = some (.int .i64 (n : Int)) ∧ w'.cell? ⟨g7, 0, none⟩ = some (.int .i64 d.up) ∧ w'.cell? ⟨g7, 1, none⟩ = some (.int .i64 d.cord) ∧ w'.cell? ⟨g7, 2, none⟩ = some (.int .i64 d.mov) ∧ w'.cell? ⟨g7, 3, none⟩ = some (.int .i64 d.beh) ∧ w'.cell? ⟨g7, 4, none⟩ = some (.int .i64 d.free) ∧ w'.cell? ⟨g7, 5, none⟩ = some (.slice (some ⟨gq, 0, none⟩) n n) ∧ w'.cell? ⟨g7, 6, none⟩ = some (.int .i64 d.end_) ∧ w'.cell? ⟨g7, 7, none⟩ = some (.int .i64 d.share)))) (by kernel_rfl) (by exact keep Sm.drew) (fun hHeld => ?_)
          change wpAnyH _ _ _ _ _ 55 (Array.replicate 55 false) _ _
          refine wpAnyH_take (i := 0) (v := ?v11) (ops_at rfl) (by kernel_rfl) (by kernel_rfl) (by kernel_rfl) (fun _ _ _ h => h) (Or.inl ⟨by rfl, ?hy11⟩) (by assumption) ?rest11
          case hy11 => intro w' hSw; (try dsimp only at hSw); go_simp; try with_reducible rfl
          try simp only [Act.put, List.setIfInBounds_toArray, List.set_cons_zero, List.set_cons_succ]
          refine wpAnyH_take (i := 1) (v := ?v12) (ops_at rfl) (by kernel_rfl) (by kernel_rfl) (by kernel_rfl) (fun _ _ _ h => h) (Or.inl ⟨by rfl, ?hy12⟩) (by assumption) ?rest12
          case hy12 => intro w' hSw; (try dsimp only at hSw); go_simp; try with_reducible rfl
          try simp only [Act.put, List.setIfInBounds_toArray, List.set_cons_zero, List.set_cons_succ]
          refine wpAnyH_take (i := 2) (v := ?v13) (ops_at rfl) (by kernel_rfl) (by kernel_rfl) (by kernel_rfl) (fun _ _ _ h => h) (Or.inl ⟨by rfl, ?hy13⟩) (by assumption) ?rest13
          case hy13 => intro w' hSw; (try dsimp only at hSw); go_simp; try with_reducible rfl
          try simp only [Act.put, List.setIfInBounds_toArray, List.set_cons_zero, List.set_cons_succ]
          refine wpAnyH_take (i := 3) (v := ?v14) (ops_at rfl) (by kernel_rfl) (by kernel_rfl) (by kernel_rfl) (fun _ _ _ h => h) (Or.inl ⟨by rfl, ?hy14⟩) (by assumption) ?rest14
          case hy14 => intro w' hSw; (try dsimp only at hSw); go_simp; try with_reducible rfl
          try simp only [Act.put, List.setIfInBounds_toArray, List.set_cons_zero, List.set_cons_succ]
          refine wpAnyH_take (i := 4) (v := ?v15) (ops_at rfl) (by kernel_rfl) (by kernel_rfl) (by kernel_rfl) (fun _ _ _ h => h) (Or.inl ⟨by rfl, ?hy15⟩) (by assumption) ?rest15
          case hy15 => intro w' hSw; (try dsimp only at hSw); go_simp; try with_reducible rfl
          try simp only [Act.put, List.setIfInBounds_toArray, List.set_cons_zero, List.set_cons_succ]
          refine wpAnyH_take (i := 5) (v := ?v16) (ops_at rfl) (by kernel_rfl) (by kernel_rfl) (by kernel_rfl) (fun _ _ _ h => h) (Or.inl ⟨by rfl, ?hy16⟩) (by assumption) ?rest16
          case hy16 => intro w' hSw; (try dsimp only at hSw); go_simp; try with_reducible rfl
          try simp only [Act.put, List.setIfInBounds_toArray, List.set_cons_zero, List.set_cons_succ]
          refine wpAnyH_take (i := 6) (v := ?v17) (ops_at rfl) (by kernel_rfl) (by kernel_rfl) (by kernel_rfl) (fun _ _ _ h => h) (Or.inl ⟨by rfl, ?hy17⟩) (by assumption) ?rest17
          case hy17 => intro w' hSw; (try dsimp only at hSw); go_simp; try with_reducible rfl
          try simp only [Act.put, List.setIfInBounds_toArray, List.set_cons_zero, List.set_cons_succ]
          refine wpAnyH_take (i := 7) (v := ?v18) (ops_at rfl) (by kernel_rfl) (by kernel_rfl) (by kernel_rfl) (fun _ _ _ h => h) (Or.inl ⟨by rfl, ?hy18⟩) (by assumption) ?rest18
          case hy18 => intro w' hSw; (try dsimp only at hSw); go_simp; try with_reducible rfl
          try simp only [Act.put, List.setIfInBounds_toArray, List.set_cons_zero, List.set_cons_succ]
          refine wpAnyH_take (i := 8) (v := ?v19) (ops_at rfl) (by kernel_rfl) (by kernel_rfl) (by kernel_rfl) (fun _ _ _ h => h) (Or.inl ⟨by rfl, ?hy19⟩) (by assumption) ?rest19
          case hy19 => intro w' hSw; (try dsimp only at hSw); go_simp; try with_reducible rfl
          try simp only [Act.put, List.setIfInBounds_toArray, List.set_cons_zero, List.set_cons_succ]
          refine wpAnyH_take (i := 9) (v := ?v20) (ops_at rfl) (by kernel_rfl) (by kernel_rfl) (by kernel_rfl) (fun _ _ _ h => h) (Or.inl ⟨by rfl, ?hy20⟩) (by assumption) ?rest20
          case hy20 => intro w' hSw; (try dsimp only at hSw); go_simp; try with_reducible rfl
          try simp only [Act.put, List.setIfInBounds_toArray, List.set_cons_zero, List.set_cons_succ]
          refine wpAnyH_take (i := 10) (v := ?v21) (ops_at rfl) (by kernel_rfl) (by kernel_rfl) (by kernel_rfl) (fun _ _ _ h => h) (Or.inl ⟨by rfl, ?hy21⟩) (by assumption) ?rest21
          case hy21 => intro w' hSw; (try dsimp only at hSw); go_simp; try with_reducible rfl
          try simp only [Act.put, List.setIfInBounds_toArray, List.set_cons_zero, List.set_cons_succ]
          refine wpAnyH_take (i := 11) (v := ?v22) (ops_at rfl) (by kernel_rfl) (by kernel_rfl) (by kernel_rfl) (fun _ _ _ h => h) (Or.inl ⟨by rfl, ?hy22⟩) (by assumption) ?rest22
          case hy22 => intro w' hSw; (try dsimp only at hSw); go_simp; try with_reducible rfl
          try simp only [Act.put, List.setIfInBounds_toArray, List.set_cons_zero, List.set_cons_succ]
          refine wpAnyH_take (i := 12) (v := ?v23) (ops_at rfl) (by kernel_rfl) (by kernel_rfl) (by kernel_rfl) (fun _ _ _ h => h) (Or.inl ⟨by rfl, ?hy23⟩) (by assumption) ?rest23
          case hy23 => intro w' hSw; (try dsimp only at hSw); go_simp; try with_reducible rfl
          try simp only [Act.put, List.setIfInBounds_toArray, List.set_cons_zero, List.set_cons_succ]
          refine wpAnyH_take (i := 13) (v := ?v24) (ops_at rfl) (by kernel_rfl) (by kernel_rfl) (by kernel_rfl) (fun _ _ _ h => h) (Or.inl ⟨by rfl, ?hy24⟩) (by assumption) ?rest24
          case hy24 => intro w' hSw; (try dsimp only at hSw); go_simp; try with_reducible rfl
          try simp only [Act.put, List.setIfInBounds_toArray, List.set_cons_zero, List.set_cons_succ]
          refine wpAnyH_take (i := 14) (v := ?v25) (ops_at rfl) (by kernel_rfl) (by kernel_rfl) (by kernel_rfl) (fun _ _ _ h => h) (Or.inl ⟨by rfl, ?hy25⟩) (by assumption) ?rest25
          case hy25 => intro w' hSw; (try dsimp only at hSw); go_simp; try with_reducible rfl
          try simp only [Act.put, List.setIfInBounds_toArray, List.set_cons_zero, List.set_cons_succ]
          refine wpAnyH_take (i := 15) (v := ?v26) (ops_at rfl) (by kernel_rfl) (by kernel_rfl) (by kernel_rfl) (fun _ _ _ h => h) (Or.inl ⟨by rfl, ?hy26⟩) (by assumption) ?rest26
          case hy26 => intro w' hSw; (try dsimp only at hSw); go_simp; try with_reducible rfl
          try simp only [Act.put, List.setIfInBounds_toArray, List.set_cons_zero, List.set_cons_succ]
          refine wpAnyH_take (i := 16) (v := ?v27) (ops_at rfl) (by kernel_rfl) (by kernel_rfl) (by kernel_rfl) (fun _ _ _ h => h) (Or.inl ⟨by rfl, ?hy27⟩) (by assumption) ?rest27
          case hy27 => intro w' hSw; (try dsimp only at hSw); go_simp; try with_reducible rfl
          try simp only [Act.put, List.setIfInBounds_toArray, List.set_cons_zero, List.set_cons_succ]
          refine wpAnyH_take (i := 17) (v := ?v28) (ops_at rfl) (by kernel_rfl) (by kernel_rfl) (by kernel_rfl) (fun _ _ _ h => h) (Or.inl ⟨by rfl, ?hy28⟩) (by assumption) ?rest28
          case hy28 => intro w' hSw; (try dsimp only at hSw); go_simp; try with_reducible rfl
          try simp only [Act.put, List.setIfInBounds_toArray, List.set_cons_zero, List.set_cons_succ]
          refine wpAnyH_take (i := 18) (v := ?v29) (ops_at rfl) (by kernel_rfl) (by kernel_rfl) (by kernel_rfl) (fun _ _ _ h => h) (Or.inl ⟨by rfl, ?hy29⟩) (by assumption) ?rest29
          case hy29 => intro w' hSw; (try dsimp only at hSw); go_simp; try with_reducible rfl
          try simp only [Act.put, List.setIfInBounds_toArray, List.set_cons_zero, List.set_cons_succ]
          refine wpAnyH_take (i := 19) (v := ?v30) (ops_at rfl) (by kernel_rfl) (by kernel_rfl) (by kernel_rfl) (fun _ _ _ h => h) (Or.inl ⟨by rfl, ?hy30⟩) (by assumption) ?rest30
          case hy30 => intro w' hSw; (try dsimp only at hSw); go_simp; try with_reducible rfl
          try simp only [Act.put, List.setIfInBounds_toArray, List.set_cons_zero, List.set_cons_succ]
          refine wpAnyH_take (i := 20) (v := ?v31) (ops_at rfl) (by kernel_rfl) (by kernel_rfl) (by kernel_rfl) (fun _ _ _ h => h) (Or.inl ⟨by rfl, ?hy31⟩) (by assumption) ?rest31
          case hy31 => intro w' hSw; (try dsimp only at hSw); go_simp; try with_reducible rfl
          try simp only [Act.put, List.setIfInBounds_toArray, List.set_cons_zero, List.set_cons_succ]
          refine wpAnyH_take (i := 21) (v := ?v32) (ops_at rfl) (by kernel_rfl) (by kernel_rfl) (by kernel_rfl) (fun _ _ _ h => h) (Or.inl ⟨by rfl, ?hy32⟩) (by assumption) ?rest32
          case hy32 => intro w' hSw; (try dsimp only at hSw); go_simp; try with_reducible rfl
          try simp only [Act.put, List.setIfInBounds_toArray, List.set_cons_zero, List.set_cons_succ]
          refine wpAnyH_take (i := 22) (v := ?v33) (ops_at rfl) (by kernel_rfl) (by kernel_rfl) (by kernel_rfl) (fun _ _ _ h => h) (Or.inl ⟨by rfl, ?hy33⟩) (by assumption) ?rest33
          case hy33 => intro w' hSw; (try dsimp only at hSw); go_simp; try with_reducible rfl
          try simp only [Act.put, List.setIfInBounds_toArray, List.set_cons_zero, List.set_cons_succ]
          refine wpAnyH_take (i := 23) (v := ?v34) (ops_at rfl) (by kernel_rfl) (by kernel_rfl) (by kernel_rfl) (fun _ _ _ h => h) (Or.inl ⟨by rfl, ?hy34⟩) (by assumption) ?rest34
          case hy34 => intro w' hSw; (try dsimp only at hSw); go_simp; try with_reducible rfl
          try simp only [Act.put, List.setIfInBounds_toArray, List.set_cons_zero, List.set_cons_succ]
          refine wpAnyH_take (i := 24) (v := ?v35) (ops_at rfl) (by kernel_rfl) (by kernel_rfl) (by kernel_rfl) (fun _ _ _ h => h) (Or.inl ⟨by rfl, ?hy35⟩) (by assumption) ?rest35
          case hy35 => intro w' hSw; (try dsimp only at hSw); go_simp; try with_reducible rfl
          try simp only [Act.put, List.setIfInBounds_toArray, List.set_cons_zero, List.set_cons_succ]
          refine wpAnyH_take (i := 25) (v := ?v36) (ops_at rfl) (by kernel_rfl) (by kernel_rfl) (by kernel_rfl) (fun _ _ _ h => h) (Or.inl ⟨by rfl, ?hy36⟩) (by assumption) ?rest36
          case hy36 => intro w' hSw; (try dsimp only at hSw); go_simp; try with_reducible rfl
          try simp only [Act.put, List.setIfInBounds_toArray, List.set_cons_zero, List.set_cons_succ]
          refine wpAnyH_take (i := 26) (v := ?v37) (ops_at rfl) (by kernel_rfl) (by kernel_rfl) (by kernel_rfl) (fun _ _ _ h => h) (Or.inl ⟨by rfl, ?hy37⟩) (by assumption) ?rest37
          case hy37 => intro w' hSw; (try dsimp only at hSw); go_simp; try with_reducible rfl
          try simp only [Act.put, List.setIfInBounds_toArray, List.set_cons_zero, List.set_cons_succ]
          refine wpAnyH_take (i := 27) (v := ?v38) (ops_at rfl) (by kernel_rfl) (by kernel_rfl) (by kernel_rfl) (fun _ _ _ h => h) (Or.inl ⟨by rfl, ?hy38⟩) (by assumption) ?rest38
          case hy38 => intro w' hSw; (try dsimp only at hSw); go_simp; try with_reducible rfl
          try simp only [Act.put, List.setIfInBounds_toArray, List.set_cons_zero, List.set_cons_succ]
          refine wpAnyH_take (i := 28) (v := ?v39) (ops_at rfl) (by kernel_rfl) (by kernel_rfl) (by kernel_rfl) (fun _ _ _ h => h) (Or.inl ⟨by rfl, ?hy39⟩) (by assumption) ?rest39
          case hy39 => intro w' hSw; (try dsimp only at hSw); go_simp; try with_reducible rfl
          try simp only [Act.put, List.setIfInBounds_toArray, List.set_cons_zero, List.set_cons_succ]
          refine wpAnyH_take (i := 29) (v := ?v40) (ops_at rfl) (by kernel_rfl) (by kernel_rfl) (by kernel_rfl) (fun _ _ _ h => h) (Or.inl ⟨by rfl, ?hy40⟩) (by assumption) ?rest40
          case hy40 => intro w' hSw; (try dsimp only at hSw); go_simp; try with_reducible rfl
          try simp only [Act.put, List.setIfInBounds_toArray, List.set_cons_zero, List.set_cons_succ]
          refine wpAnyH_take (i := 30) (v := ?v41) (ops_at rfl) (by kernel_rfl) (by kernel_rfl) (by kernel_rfl) (fun _ _ _ h => h) (Or.inl ⟨by rfl, ?hy41⟩) (by assumption) ?rest41
          case hy41 => intro w' hSw; (try dsimp only at hSw); go_simp; try with_reducible rfl
          try simp only [Act.put, List.setIfInBounds_toArray, List.set_cons_zero, List.set_cons_succ]
          refine wpAnyH_take (i := 31) (v := ?v42) (ops_at rfl) (by kernel_rfl) (by kernel_rfl) (by kernel_rfl) (fun _ _ _ h => h) (Or.inl ⟨by rfl, ?hy42⟩) (by assumption) ?rest42
          case hy42 => intro w' hSw; (try dsimp only at hSw); go_simp; try with_reducible rfl
          try simp only [Act.put, List.setIfInBounds_toArray, List.set_cons_zero, List.set_cons_succ]
          refine wpAnyH_take (i := 32) (v := ?v43) (ops_at rfl) (by kernel_rfl) (by kernel_rfl) (by kernel_rfl) (fun _ _ _ h => h) (Or.inl ⟨by rfl, ?hy43⟩) (by assumption) ?rest43
          case hy43 => intro w' hSw; (try dsimp only at hSw); go_simp; try with_reducible rfl
          try simp only [Act.put, List.setIfInBounds_toArray, List.set_cons_zero, List.set_cons_succ]
          refine wpAnyH_take (i := 33) (v := ?v44) (ops_at rfl) (by kernel_rfl) (by kernel_rfl) (by kernel_rfl) (fun _ _ _ h => h) (Or.inl ⟨by rfl, ?hy44⟩) (by assumption) ?rest44
          case hy44 => intro w' hSw; (try dsimp only at hSw); go_simp; try with_reducible rfl
          try simp only [Act.put, List.setIfInBounds_toArray, List.set_cons_zero, List.set_cons_succ]
          refine wpAnyH_take (i := 34) (v := ?v45) (ops_at rfl) (by kernel_rfl) (by kernel_rfl) (by kernel_rfl) (fun _ _ _ h => h) (Or.inl ⟨by rfl, ?hy45⟩) (by assumption) ?rest45
          case hy45 => intro w' hSw; (try dsimp only at hSw); go_simp; try with_reducible rfl
          try simp only [Act.put, List.setIfInBounds_toArray, List.set_cons_zero, List.set_cons_succ]
          refine wpAnyH_take (i := 35) (v := ?v46) (ops_at rfl) (by kernel_rfl) (by kernel_rfl) (by kernel_rfl) (fun _ _ _ h => h) (Or.inl ⟨by rfl, ?hy46⟩) (by assumption) ?rest46
          case hy46 => intro w' hSw; (try dsimp only at hSw); go_simp; try with_reducible rfl
          try simp only [Act.put, List.setIfInBounds_toArray, List.set_cons_zero, List.set_cons_succ]
          refine wpAnyH_ready (rs := [36]) (by kernel_rfl) (by simp) ?_
          refine AllReadyH.cons (ops_at rfl) (fun K hK => ?_) AllReadyH.nil
          go_simp
          refine (wvBehind s _ (HS.out.all Sm.drew.fin) (by have := HF.out.n6; omega)).mono ?_
          rintro e w9 ⟨pa, ca, rfl, -, hb9⟩
          have S9 := Sm.drew.grow hb9
          refine hK.out _ _ (by exact keep S9) (fun hHeld => ?_)
          clear hK K
          try simp only [Act.put, List.setIfInBounds_toArray, List.set_cons_zero, List.set_cons_succ]
          refine wpAnyH_take (i := 37) (v := ?v48) (ops_at rfl) (by kernel_rfl) (by kernel_rfl) (by kernel_rfl) (fun _ _ _ h => h) (Or.inl ⟨by rfl, ?hy48⟩) (by assumption) ?rest48
          case hy48 => intro w' hSw; (try dsimp only at hSw); go_simp; try with_reducible rfl
          try simp only [Act.put, List.setIfInBounds_toArray, List.set_cons_zero, List.set_cons_succ]
          refine wpAnyH_take (i := 38) (v := ?v49) (ops_at rfl) (by kernel_rfl) (by kernel_rfl) (by kernel_rfl) (fun _ _ _ h => h) (Or.inl ⟨by rfl, ?hy49⟩) (by assumption) ?rest49
          case hy49 => intro w' hSw; (try dsimp only at hSw); go_simp; try with_reducible rfl
          try simp only [Act.put, List.setIfInBounds_toArray, List.set_cons_zero, List.set_cons_succ]
          refine wpAnyH_take (i := 39) (v := ?v50) (ops_at rfl) (by kernel_rfl) (by kernel_rfl) (by kernel_rfl) (fun _ _ _ h => h) (Or.inl ⟨by rfl, ?hy50⟩) (by assumption) ?rest50
          case hy50 => intro w' hSw; (try dsimp only at hSw); go_simp; try with_reducible rfl
          try simp only [Act.put, List.setIfInBounds_toArray, List.set_cons_zero, List.set_cons_succ]
          refine wpAnyH_take (i := 40) (v := ?v51) (ops_at rfl) (by kernel_rfl) (by kernel_rfl) (by kernel_rfl) (fun _ _ _ h => h) (Or.inl ⟨by rfl, ?hy51⟩) (by assumption) ?rest51
          case hy51 => intro w' hSw; (try dsimp only at hSw); go_simp; try with_reducible rfl
          try simp only [Act.put, List.setIfInBounds_toArray, List.set_cons_zero, List.set_cons_succ]
          refine wpAnyH_take (i := 41) (v := ?v52) (ops_at rfl) (by kernel_rfl) (by kernel_rfl) (by kernel_rfl) (fun _ _ _ h => h) (Or.inl ⟨by rfl, ?hy52⟩) (by assumption) ?rest52
          case hy52 => intro w' hSw; (try dsimp only at hSw); go_simp; try with_reducible rfl
          try simp only [Act.put, List.setIfInBounds_toArray, List.set_cons_zero, List.set_cons_succ]
          refine wpAnyH_take (i := 42) (v := ?v53) (ops_at rfl) (by kernel_rfl) (by kernel_rfl) (by kernel_rfl) (fun _ _ _ h => h) (Or.inl ⟨by rfl, ?hy53⟩) (by assumption) ?rest53
          case hy53 => intro w' hSw; (try dsimp only at hSw); go_simp; try with_reducible rfl
          try simp only [Act.put, List.setIfInBounds_toArray, List.set_cons_zero, List.set_cons_succ]
          refine wpAnyH_take (i := 43) (v := ?v54) (ops_at rfl) (by kernel_rfl) (by kernel_rfl) (by kernel_rfl) (fun _ _ _ h => h) (Or.inl ⟨by rfl, ?hy54⟩) (by assumption) ?rest54
          case hy54 => intro w' hSw; (try dsimp only at hSw); go_simp; try with_reducible rfl
          try simp only [Act.put, List.setIfInBounds_toArray, List.set_cons_zero, List.set_cons_succ]
          refine wpAnyH_take (i := 44) (v := ?v55) (ops_at rfl) (by kernel_rfl) (by kernel_rfl) (by kernel_rfl) (fun _ _ _ h => h) (Or.inl ⟨by rfl, ?hy55⟩) (by assumption) ?rest55
          case hy55 => intro w' hSw; (try dsimp only at hSw); go_simp; try with_reducible rfl
          try simp only [Act.put, List.setIfInBounds_toArray, List.set_cons_zero, List.set_cons_succ]
          refine wpAnyH_take (i := 45) (v := ?v56) (ops_at rfl) (by kernel_rfl) (by kernel_rfl) (by kernel_rfl) (fun _ _ _ h => h) (Or.inl ⟨by rfl, ?hy56⟩) (by assumption) ?rest56
          case hy56 => intro w' hSw; (try dsimp only at hSw); go_simp; try with_reducible rfl
          try simp only [Act.put, List.setIfInBounds_toArray, List.set_cons_zero, List.set_cons_succ]
          refine wpAnyH_take (i := 46) (v := ?v57) (ops_at rfl) (by kernel_rfl) (by kernel_rfl) (by kernel_rfl) (fun _ _ _ h => h) (Or.inl ⟨by rfl, ?hy57⟩) (by assumption) ?rest57
          case hy57 => intro w' hSw; (try dsimp only at hSw); go_simp; try with_reducible rfl
          try simp only [Act.put, List.setIfInBounds_toArray, List.set_cons_zero, List.set_cons_succ]
          refine wpAnyH_take (i := 47) (v := ?v58) (ops_at rfl) (by kernel_rfl) (by kernel_rfl) (by kernel_rfl) (fun _ _ _ h => h) (Or.inl ⟨by rfl, ?hy58⟩) (by assumption) ?rest58
          case hy58 => intro w' hSw; (try dsimp only at hSw); go_simp; try with_reducible rfl
          try simp only [Act.put, List.setIfInBounds_toArray, List.set_cons_zero, List.set_cons_succ]
          refine wpAnyH_take (i := 48) (v := ?v59) (ops_at rfl) (by kernel_rfl) (by kernel_rfl) (by kernel_rfl) (fun _ _ _ h => h) (Or.inl ⟨by rfl, ?hy59⟩) (by assumption) ?rest59
          case hy59 => intro w' hSw; (try dsimp only at hSw); go_simp; try with_reducible rfl
          try simp only [Act.put, List.setIfInBounds_toArray, List.set_cons_zero, List.set_cons_succ]
          refine wpAnyH_take (i := 49) (v := ?v60) (ops_at rfl) (by kernel_rfl) (by kernel_rfl) (by kernel_rfl) (fun _ _ _ h => h) (Or.inl ⟨by rfl, ?hy60⟩) (by assumption) ?rest60
          case hy60 => intro w' hSw; (try dsimp only at hSw); go_simp; try with_reducible rfl
          try simp only [Act.put, List.setIfInBounds_toArray, List.set_cons_zero, List.set_cons_succ]
          refine wpAnyH_take (i := 50) (v := ?v61) (ops_at rfl) (by kernel_rfl) (by kernel_rfl) (by kernel_rfl) (fun _ _ _ h => h) (Or.inl ⟨by rfl, ?hy61⟩) (by assumption) ?rest61
          case hy61 => intro w' hSw; (try dsimp only at hSw); go_simp; try with_reducible rfl
          try simp only [Act.put, List.setIfInBounds_toArray, List.set_cons_zero, List.set_cons_succ]
          refine wpAnyH_take (i := 51) (v := ?v62) (ops_at rfl) (by kernel_rfl) (by kernel_rfl) (by kernel_rfl) (fun _ _ _ h => h) (Or.inl ⟨by rfl, ?hy62⟩) (by assumption) ?rest62
          case hy62 => intro w' hSw; (try dsimp only at hSw); go_simp; try with_reducible rfl
          try simp only [Act.put, List.setIfInBounds_toArray, List.set_cons_zero, List.set_cons_succ]
          refine wpAnyH_take (i := 52) (v := ?v63) (ops_at rfl) (by kernel_rfl) (by kernel_rfl) (by kernel_rfl) (fun _ _ _ h => h) (Or.inl ⟨by rfl, ?hy63⟩) (by assumption) ?rest63
          case hy63 => intro w' hSw; (try dsimp only at hSw); go_simp; try with_reducible rfl
          try simp only [Act.put, List.setIfInBounds_toArray, List.set_cons_zero, List.set_cons_succ]
          refine wpAnyH_take (i := 53) (v := ?v64) (ops_at rfl) (by kernel_rfl) (by kernel_rfl) (by kernel_rfl) (fun _ _ _ h => h) (Or.inl ⟨by rfl, ?hy64⟩) (by assumption) ?rest64
          case hy64 => intro w' hSw; (try dsimp only at hSw); go_simp; try with_reducible rfl
          try simp only [Act.put, List.setIfInBounds_toArray, List.set_cons_zero, List.set_cons_succ]
          refine wpAnyH_take (i := 54) (v := ?v65) (ops_at rfl) (by kernel_rfl) (by kernel_rfl) (by kernel_rfl) (fun _ _ _ h => h) (Or.inl ⟨by rfl, ?hy65⟩) (by assumption) ?rest65
          case hy65 => intro w' hSw; (try dsimp only at hSw); go_simp; try with_reducible rfl
          try simp only [Act.put, List.setIfInBounds_toArray, List.set_cons_zero, List.set_cons_succ]
          refine wpAnyH_done (by kernel_rfl) ?_ _
          go_wp2
          go_ret
          exact ⟨rfl, S9.fin⟩
        have d3 : decide ((m : Int) < (s.nn : Int)) = true := decide_eq_true (by omega)
        have d3n : decide (m < s.nn) = true := decide_eq_true hml
        have hkl : m < s.N.length := by rw [HS.out.nn]; exact hml
        have i0 := fun wx => idxND s.na s.nn s.nc (fun h => HS.out.n.ok (by rw [HS.out.nn]; exact h)) m hml wx
        have HY := hid (fun wx (hb : Below w.heap.size w wx) => (HS.out.n.all eNDok hb).ndAt hkl)
        have E : Hid (cntP (otherN s) s.N (m + 1) = cntP (otherN s) s.N m + bI (otherN s s.N[m])) := cntP_step _ _ _ hkl
        obtain ⟨o1, o2⟩ := cntP_le (otherN s) s.N m
        have hn6 := HF.out.n6
        have hwm : IntKind.i64.wrap ((m : Int) + 1) = (m : Int) + 1 := by rw [IntKind.wrap_i64]; omega
        have hwo : IntKind.i64.wrap (cntP (otherN s) s.N m + 1) = cntP (otherN s) s.N m + 1 := by rw [IntKind.wrap_i64]; omega
        generalize s.N[m] = x at *
        generalize adr s.na (m * 5) = A at *
        generalize cntP (otherN s) s.N m = ot at *
        obtain ⟨u, cd, mv, vr, jb⟩ := x
        have y0 := (HY.out _ Sm.drew.fin).1
        have y3 := (HY.out _ Sm.drew.fin).2.2.2.1
        cases u
        case false =>
          have E0 : Hid (cntP (otherN s) s.N (m + 1) = ot) := by rw [Hid, E.out]; simp [bI, otherN]
          go_wp2_with fail
          refine wp_region_held_drew (S := (fun w' => w'.cell? ⟨bs, 0, none⟩ = some (.slice s.na s.nn s.nc) ∧ w'.cell? A = some (.bool false))) (by kernel_rfl) (by exact ⟨(Sm.drew.sC 1 rfl).1, y0⟩) (fun hHeld => ?_)
          change wpAnyH _ _ _ _ _ 17 (Array.replicate 17 false) _ _
          refine wpAnyH_take (i := 0) (v := ?v66) (ops_at rfl) (by kernel_rfl) (by kernel_rfl) (by kernel_rfl) (fun _ _ _ h => h) (Or.inl ⟨by rfl, ?hy66⟩) (by assumption) ?rest66
          case hy66 => intro w' hSw; (try dsimp only at hSw); go_simp; try with_reducible rfl
          try simp only [Act.put, List.setIfInBounds_toArray, List.set_cons_zero, List.set_cons_succ]
          refine wpAnyH_take (i := 1) (v := ?v67) (ops_at rfl) (by kernel_rfl) (by kernel_rfl) (by kernel_rfl) (fun _ _ _ h => h) (Or.inl ⟨by rfl, ?hy67⟩) (by assumption) ?rest67
          case hy67 => intro w' hSw; (try dsimp only at hSw); go_simp; try with_reducible rfl
          try simp only [Act.put, List.setIfInBounds_toArray, List.set_cons_zero, List.set_cons_succ]
          refine wpAnyH_take (i := 2) (v := ?v68) (ops_at rfl) (by kernel_rfl) (by kernel_rfl) (by kernel_rfl) (fun _ _ _ h => h) (Or.inl ⟨by rfl, ?hy68⟩) (by assumption) ?rest68
          case hy68 => intro w' hSw; (try dsimp only at hSw); go_simp; try with_reducible rfl
          try simp only [Act.put, List.setIfInBounds_toArray, List.set_cons_zero, List.set_cons_succ]
          refine wpAnyH_take (i := 3) (v := ?v69) (ops_at rfl) (by kernel_rfl) (by kernel_rfl) (by kernel_rfl) (fun _ _ _ h => h) (Or.inl ⟨by rfl, ?hy69⟩) (by assumption) ?rest69
          case hy69 => intro w' hSw; (try dsimp only at hSw); go_simp; try with_reducible rfl
          try simp only [Act.put, List.setIfInBounds_toArray, List.set_cons_zero, List.set_cons_succ]
          refine wpAnyH_take (i := 4) (v := ?v70) (ops_at rfl) (by kernel_rfl) (by kernel_rfl) (by kernel_rfl) (fun _ _ _ h => h) (Or.inl ⟨by rfl, ?hy70⟩) (by assumption) ?rest70
          case hy70 => intro w' hSw; (try dsimp only at hSw); go_simp; try with_reducible rfl
          try simp only [Act.put, List.setIfInBounds_toArray, List.set_cons_zero, List.set_cons_succ]
          refine wpAnyH_take (i := 5) (v := ?v71) (ops_at rfl) (by kernel_rfl) (by kernel_rfl) (by kernel_rfl) (fun _ _ _ h => h) (Or.inl ⟨by rfl, ?hy71⟩) (by assumption) ?rest71
          case hy71 => intro w' hSw; (try dsimp only at hSw); go_simp; try with_reducible rfl
          try simp only [Act.put, List.setIfInBounds_toArray, List.set_cons_zero, List.set_cons_succ]
          refine wpAnyH_take (i := 6) (v := ?v72) (ops_at rfl) (by kernel_rfl) (by kernel_rfl) (by kernel_rfl) (fun _ _ _ h => h) (Or.inl ⟨by rfl, ?hy72⟩) (by assumption) ?rest72
          case hy72 => intro w' hSw; (try dsimp only at hSw); go_simp; try with_reducible rfl
          try simp only [Act.put, List.setIfInBounds_toArray, List.set_cons_zero, List.set_cons_succ]
          refine wpAnyH_take (i := 7) (v := undef) (ops_at rfl) (by kernel_rfl) (by kernel_rfl) (by kernel_rfl) (fun _ _ _ h => h) (Or.inr ⟨by rfl, rfl⟩) (by assumption) ?rest73
          try simp only [Act.put, List.setIfInBounds_toArray, List.set_cons_zero, List.set_cons_succ]
          refine wpAnyH_take (i := 8) (v := undef) (ops_at rfl) (by kernel_rfl) (by kernel_rfl) (by kernel_rfl) (fun _ _ _ h => h) (Or.inr ⟨by rfl, rfl⟩) (by assumption) ?rest74
          try simp only [Act.put, List.setIfInBounds_toArray, List.set_cons_zero, List.set_cons_succ]
          refine wpAnyH_take (i := 9) (v := undef) (ops_at rfl) (by kernel_rfl) (by kernel_rfl) (by kernel_rfl) (fun _ _ _ h => h) (Or.inr ⟨by rfl, rfl⟩) (by assumption) ?rest75
          try simp only [Act.put, List.setIfInBounds_toArray, List.set_cons_zero, List.set_cons_succ]
          refine wpAnyH_take (i := 10) (v := undef) (ops_at rfl) (by kernel_rfl) (by kernel_rfl) (by kernel_rfl) (fun _ _ _ h => h) (Or.inr ⟨by rfl, rfl⟩) (by assumption) ?rest76
          try simp only [Act.put, List.setIfInBounds_toArray, List.set_cons_zero, List.set_cons_succ]
          refine wpAnyH_take (i := 11) (v := undef) (ops_at rfl) (by kernel_rfl) (by kernel_rfl) (by kernel_rfl) (fun _ _ _ h => h) (Or.inr ⟨by rfl, rfl⟩) (by assumption) ?rest77
          try simp only [Act.put, List.setIfInBounds_toArray, List.set_cons_zero, List.set_cons_succ]
          refine wpAnyH_take (i := 12) (v := undef) (ops_at rfl) (by kernel_rfl) (by kernel_rfl) (by kernel_rfl) (fun _ _ _ h => h) (Or.inr ⟨by rfl, rfl⟩) (by assumption) ?rest78
          try simp only [Act.put, List.setIfInBounds_toArray, List.set_cons_zero, List.set_cons_succ]
          refine wpAnyH_take (i := 13) (v := undef) (ops_at rfl) (by kernel_rfl) (by kernel_rfl) (by kernel_rfl) (fun _ _ _ h => h) (Or.inr ⟨by rfl, rfl⟩) (by assumption) ?rest79
          try simp only [Act.put, List.setIfInBounds_toArray, List.set_cons_zero, List.set_cons_succ]
          refine wpAnyH_take (i := 14) (v := undef) (ops_at rfl) (by kernel_rfl) (by kernel_rfl) (by kernel_rfl) (fun _ _ _ h => h) (Or.inr ⟨by rfl, rfl⟩) (by assumption) ?rest80
          try simp only [Act.put, List.setIfInBounds_toArray, List.set_cons_zero, List.set_cons_succ]
          refine wpAnyH_take (i := 15) (v := undef) (ops_at rfl) (by kernel_rfl) (by kernel_rfl) (by kernel_rfl) (fun _ _ _ h => h) (Or.inr ⟨by rfl, rfl⟩) (by assumption) ?rest81
          try simp only [Act.put, List.setIfInBounds_toArray, List.set_cons_zero, List.set_cons_succ]
          refine wpAnyH_take (i := 16) (v := ?v82) (ops_at rfl) (by kernel_rfl) (by kernel_rfl) (by kernel_rfl) (fun _ _ _ h => h) (Or.inl ⟨by rfl, ?hy82⟩) (by assumption) ?rest82
          case hy82 => intro w' hSw; (try dsimp only at hSw); go_simp; try with_reducible rfl
          try simp only [Act.put, List.setIfInBounds_toArray, List.set_cons_zero, List.set_cons_succ]
          refine wpAnyH_done (by kernel_rfl) ?_ _
          go_wp2
          go_roundw
          case rel => exact ⟨m + 1, by omega, by rw [E0.out], by go_num, Sm.drew⟩
          case measure => simp [intOf]; omega
        go_wp2_with fail
        refine wp_region_held_drew (S := (fun w' => (w'.cell? ⟨bs, 0, none⟩ = some (.slice s.na s.nn s.nc) ∧ w'.cell? ⟨bs, 1, none⟩ = some (.slice s.ja s.jn s.jc) ∧ w'.cell? ⟨bs, 2, none⟩ = some (.int .i64 s.goal) ∧ w'.cell? ⟨bs, 3, none⟩ = some (.int .i64 s.prior) ∧ w'.cell? ⟨bs, 4, none⟩ = some (.int .i64 s.mode) ∧ w'.cell? ⟨bs, 5, none⟩ = some (.int .i64 s.term)) ∧ w'.cell? A = some (.bool true) ∧ w'.cell? { block := A.block, off := A.off + 3 } = some (.int .i64 vr))) (by kernel_rfl) (by exact ⟨Sm.drew.sC 1 rfl, y0, y3⟩) (fun hHeld => ?_)
        change wpAnyH _ _ _ _ _ 17 (Array.replicate 17 false) _ _
        refine wpAnyH_take (i := 0) (v := ?v83) (ops_at rfl) (by kernel_rfl) (by kernel_rfl) (by kernel_rfl) (fun _ _ _ h => h) (Or.inl ⟨by rfl, ?hy83⟩) (by assumption) ?rest83
        case hy83 => intro w' hSw; (try dsimp only at hSw); go_simp; try with_reducible rfl
        try simp only [Act.put, List.setIfInBounds_toArray, List.set_cons_zero, List.set_cons_succ]
        refine wpAnyH_take (i := 1) (v := ?v84) (ops_at rfl) (by kernel_rfl) (by kernel_rfl) (by kernel_rfl) (fun _ _ _ h => h) (Or.inl ⟨by rfl, ?hy84⟩) (by assumption) ?rest84
        case hy84 => intro w' hSw; (try dsimp only at hSw); go_simp; try with_reducible rfl
        try simp only [Act.put, List.setIfInBounds_toArray, List.set_cons_zero, List.set_cons_succ]
        refine wpAnyH_take (i := 2) (v := ?v85) (ops_at rfl) (by kernel_rfl) (by kernel_rfl) (by kernel_rfl) (fun _ _ _ h => h) (Or.inl ⟨by rfl, ?hy85⟩) (by assumption) ?rest85
        case hy85 => intro w' hSw; (try dsimp only at hSw); go_simp; try with_reducible rfl
        try simp only [Act.put, List.setIfInBounds_toArray, List.set_cons_zero, List.set_cons_succ]
        refine wpAnyH_take (i := 3) (v := ?v86) (ops_at rfl) (by kernel_rfl) (by kernel_rfl) (by kernel_rfl) (fun _ _ _ h => h) (Or.inl ⟨by rfl, ?hy86⟩) (by assumption) ?rest86
        case hy86 => intro w' hSw; (try dsimp only at hSw); go_simp; try with_reducible rfl
        try simp only [Act.put, List.setIfInBounds_toArray, List.set_cons_zero, List.set_cons_succ]
        refine wpAnyH_take (i := 4) (v := ?v87) (ops_at rfl) (by kernel_rfl) (by kernel_rfl) (by kernel_rfl) (fun _ _ _ h => h) (Or.inl ⟨by rfl, ?hy87⟩) (by assumption) ?rest87
        case hy87 => intro w' hSw; (try dsimp only at hSw); go_simp; try with_reducible rfl
        try simp only [Act.put, List.setIfInBounds_toArray, List.set_cons_zero, List.set_cons_succ]
        refine wpAnyH_take (i := 5) (v := ?v88) (ops_at rfl) (by kernel_rfl) (by kernel_rfl) (by kernel_rfl) (fun _ _ _ h => h) (Or.inl ⟨by rfl, ?hy88⟩) (by assumption) ?rest88
        case hy88 => intro w' hSw; (try dsimp only at hSw); go_simp; try with_reducible rfl
        try simp only [Act.put, List.setIfInBounds_toArray, List.set_cons_zero, List.set_cons_succ]
        refine wpAnyH_take (i := 6) (v := ?v89) (ops_at rfl) (by kernel_rfl) (by kernel_rfl) (by kernel_rfl) (fun _ _ _ h => h) (Or.inl ⟨by rfl, ?hy89⟩) (by assumption) ?rest89
        case hy89 => intro w' hSw; (try dsimp only at hSw); go_simp; try with_reducible rfl
        try simp only [Act.put, List.setIfInBounds_toArray, List.set_cons_zero, List.set_cons_succ]
        refine wpAnyH_take (i := 7) (v := ?v90) (ops_at rfl) (by kernel_rfl) (by kernel_rfl) (by kernel_rfl) (fun _ _ _ h => h) (Or.inl ⟨by rfl, ?hy90⟩) (by assumption) ?rest90
        case hy90 => intro w' hSw; (try dsimp only at hSw); go_simp; try with_reducible rfl
        try simp only [Act.put, List.setIfInBounds_toArray, List.set_cons_zero, List.set_cons_succ]
        refine wpAnyH_take (i := 8) (v := ?v91) (ops_at rfl) (by kernel_rfl) (by kernel_rfl) (by kernel_rfl) (fun _ _ _ h => h) (Or.inl ⟨by rfl, ?hy91⟩) (by assumption) ?rest91
        case hy91 => intro w' hSw; (try dsimp only at hSw); go_simp; try with_reducible rfl
        try simp only [Act.put, List.setIfInBounds_toArray, List.set_cons_zero, List.set_cons_succ]
        refine wpAnyH_take (i := 9) (v := ?v92) (ops_at rfl) (by kernel_rfl) (by kernel_rfl) (by kernel_rfl) (fun _ _ _ h => h) (Or.inl ⟨by rfl, ?hy92⟩) (by assumption) ?rest92
        case hy92 => intro w' hSw; (try dsimp only at hSw); go_simp; try with_reducible rfl
        try simp only [Act.put, List.setIfInBounds_toArray, List.set_cons_zero, List.set_cons_succ]
        refine wpAnyH_take (i := 10) (v := ?v93) (ops_at rfl) (by kernel_rfl) (by kernel_rfl) (by kernel_rfl) (fun _ _ _ h => h) (Or.inl ⟨by rfl, ?hy93⟩) (by assumption) ?rest93
        case hy93 => intro w' hSw; (try dsimp only at hSw); go_simp; try with_reducible rfl
        try simp only [Act.put, List.setIfInBounds_toArray, List.set_cons_zero, List.set_cons_succ]
        refine wpAnyH_take (i := 11) (v := ?v94) (ops_at rfl) (by kernel_rfl) (by kernel_rfl) (by kernel_rfl) (fun _ _ _ h => h) (Or.inl ⟨by rfl, ?hy94⟩) (by assumption) ?rest94
        case hy94 => intro w' hSw; (try dsimp only at hSw); go_simp; try with_reducible rfl
        try simp only [Act.put, List.setIfInBounds_toArray, List.set_cons_zero, List.set_cons_succ]
        refine wpAnyH_take (i := 12) (v := ?v95) (ops_at rfl) (by kernel_rfl) (by kernel_rfl) (by kernel_rfl) (fun _ _ _ h => h) (Or.inl ⟨by rfl, ?hy95⟩) (by assumption) ?rest95
        case hy95 => intro w' hSw; (try dsimp only at hSw); go_simp; try with_reducible rfl
        try simp only [Act.put, List.setIfInBounds_toArray, List.set_cons_zero, List.set_cons_succ]
        refine wpAnyH_take (i := 13) (v := ?v96) (ops_at rfl) (by kernel_rfl) (by kernel_rfl) (by kernel_rfl) (fun _ _ _ h => h) (Or.inl ⟨by rfl, ?hy96⟩) (by assumption) ?rest96
        case hy96 => intro w' hSw; (try dsimp only at hSw); go_simp; try with_reducible rfl
        try simp only [Act.put, List.setIfInBounds_toArray, List.set_cons_zero, List.set_cons_succ]
        refine wpAnyH_ready (rs := [14]) (by kernel_rfl) (by simp) ?_
        refine AllReadyH.cons (ops_at rfl) (fun K hK => ?_) AllReadyH.nil
        go_simp
        refine (wMeant s _).mono ?_
        rintro e w9 ⟨rfl, hb9⟩
        have S9 := Sm.drew.grow hb9
        have y0b := (HY.out _ S9.fin).1
        have y3b := (HY.out _ S9.fin).2.2.2.1
        refine hK.out _ _ (by exact ⟨S9.sC 1 rfl, y0b, y3b⟩) (fun hHeld => ?_)
        clear hK K
        try simp only [Act.put, List.setIfInBounds_toArray, List.set_cons_zero, List.set_cons_succ]
        refine wpAnyH_take (i := 15) (v := ?v98) (ops_at rfl) (by kernel_rfl) (by kernel_rfl) (by kernel_rfl) (fun _ _ _ h => h) (Or.inl ⟨by rfl, ?hy98⟩) (by assumption) ?rest98
        case hy98 => intro w' hSw; (try dsimp only at hSw); go_simp; try with_reducible rfl
        try simp only [Act.put, List.setIfInBounds_toArray, List.set_cons_zero, List.set_cons_succ]
        refine wpAnyH_take (i := 16) (v := ?v99) (ops_at rfl) (by kernel_rfl) (by kernel_rfl) (by kernel_rfl) (fun _ _ _ h => h) (Or.inl ⟨by rfl, ?hy99⟩) (by assumption) ?rest99
        case hy99 => intro w' hSw; (try dsimp only at hSw); go_simp; try with_reducible rfl
        try simp only [Act.put, List.setIfInBounds_toArray, List.set_cons_zero, List.set_cons_succ]
        refine wpAnyH_done (by kernel_rfl) ?_ _
        generalize hpb : (vr != s.meant) = pb
        have HPb : Hid (otherN s ⟨true, cd, mv, vr, jb⟩ = pb) := by rw [Hid, ← hpb]; rfl
        clear hpb
        cases pb
        · go_wp2
          go_roundw
          case rel => exact ⟨m + 1, by omega, by rw [E.out, HPb.out]; simp [bI], by go_num, S9⟩
          case measure => simp [intOf]; omega
        · go_wp2
          go_roundw
          case rel => exact ⟨m + 1, by omega, by rw [E.out, HPb.out]; rfl, by go_num, S9⟩
          case measure => simp [intOf]; omega
    have d1 : decide ((k : Int) < (n : Int)) = true := decide_eq_true (by omega)
    have d1n : decide (k < n) = true := decide_eq_true hlt
    go_wp2_with fail
    go_loopw [8, 11] (fun r i wx => ∃ (q : Nat), q ≤ 5 ∧ r = .int .i64 (sumK s.J s.J.length (k * 5 + q)) ∧ i = .int .i64 q ∧ wx = wr) (fun _ i _ => 5 - (intOf i).toNat)
    case atStart => exact ⟨0, Nat.zero_le _, rfl, rfl, rfl⟩
    case round =>
      obtain ⟨q, hq, rfl, rfl, rfl⟩ := hrel
      by_cases hq5 : q < 5
      case neg =>
        have d2 : decide ((q : Int) < 5) = false := decide_eq_false (by omega)
        have d2n : decide (q < 5) = false := decide_eq_false hq5
        have e5 : (k + 1) * 5 = k * 5 + q := by omega
        have E5 := hid e5
        clear e5
        have hwk : IntKind.i64.wrap ((k : Int) + 1) = (k : Int) + 1 := by rw [IntKind.wrap_i64]; omega
        go_wp2
        go_roundw
        case rel => exact ⟨k + 1, by omega, by rw [E5.out], by go_num, by first | rfl | trivial⟩
        case measure => simp [intOf]; omega
      have d2 : decide ((q : Int) < 5) = true := decide_eq_true (by omega)
      have d2n : decide (q < 5) = true := decide_eq_true hq5
      have i6 := fun wx => idxQ (some ⟨gq, 0, none⟩) n n (fun _ => rfl) k (k : Int) rfl hlt wx
      have i7 := fun wx => idxP gq (k * 5) q (q : Int) rfl hq5 wx
      simp only [adr, Option.getD_some, Addr.add_lit, Nat.zero_add] at i6
      have c9 := qRows_cell HR2.out k q hlt hq5
      have HW : IntKind.i64.wrap (sumK s.J s.J.length (k * 5 + q) + qCnt s.J s.J.length (k * 5 + q)) = sumK s.J s.J.length (k * 5 + (q + 1)) := by
        have b1 := sumK_le s.J s.J.length (k * 5 + q)
        have b2 := qCnt_le s.J (k * 5 + q) s.J.length
        have b3 : s.J.length ≤ 24 := by rw [HS.out.jn]; exact HF.out.jn
        have b4 : ((k * 5 + q : Nat) : Int) * (s.J.length : Int) ≤ 15 * 24 := by exact_mod_cast Nat.mul_le_mul (show k * 5 + q ≤ 15 by omega) b3
        rw [show sumK s.J s.J.length (k * 5 + (q + 1)) = sumK s.J s.J.length (k * 5 + q) + qCnt s.J s.J.length (k * 5 + q) from rfl, IntKind.wrap_i64]
        omega
      have hwk : IntKind.i64.wrap ((q : Int) + 1) = (q : Int) + 1 := by rw [IntKind.wrap_i64]; omega
      obtain ⟨s1, hs1⟩ : ∃ s1, sumK s.J s.J.length (k * 5 + (q + 1)) = s1 := ⟨_, rfl⟩
      rw [hs1] at HW
      have HS1 := hid hs1
      clear hs1
      go_wp2
      go_roundw
      case rel => exact ⟨q + 1, by omega, by rw [HS1.out], by go_num, by first | rfl | trivial⟩
      case measure => simp [intOf]; omega
end Go.Proofs.YtjfbmgndekfglaaDoor
