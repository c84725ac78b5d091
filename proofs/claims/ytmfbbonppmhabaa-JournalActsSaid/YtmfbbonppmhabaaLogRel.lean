/- The log beside the document's log: lists alone. -/
import Derived.Test.YtmfbbonppmhabaaLogRef2
namespace Go.Proofs.Ytmfbbonppmhabaa
set_option linter.unusedVariables false
set_option linter.unusedSimpArgs false
open Go.RowKit

theorem frameB_none {p : List UInt8} (h : p.length = 0 ∨ 4000 < p.length) : frameB p = [] := by unfold frameB; rw [if_pos h]
theorem Rel.nought {d : DSt} {r : RD} (h : Rel d r) (hf : ∀ x ∈ d.waits, x.1 + x.2.length ≤ d.lasts.length) {fr sz k : Nat} (hr : fr + sz ≤ d.lasts.length) (hk : k ≤ sz) : Rel (d.nought fr sz k) (r.nought fr sz k) :=
  (h.write _ _).sync (fit_write hf (by rw [List.length_replicate]; omega))
/-- What the two logs have in common. -/
structure LogRel (d : DSt) (r : RD) (fr sz used : Nat) (ps : List (List UInt8)) (n k : Nat) : Prop where
  rel : Rel d r
  inv : LogInv d fr sz used ps
  len : d.lasts.length = n
  few : n ≤ 400
  waits : d.waits.length ≤ k
  syncs : d.syncs ≤ 1 + 3 * k
section
variable {d : DSt} {r : RD} {fr sz used n k : Nat} {ps : List (List UInt8)}
theorem LogRel.psLen (h : LogRel d r fr sz used ps n k) : r.ps.length ≤ 400 * k := by
  rw [h.rel.ps, ← dWaits_flat]
  refine Nat.le_trans (dWaits_le h.inv.fit) ?_
  rw [h.len, Nat.mul_comm]
  exact Nat.mul_le_mul h.few h.waits
theorem LogRel.mono (h : LogRel d r fr sz used ps n k) : LogRel d r fr sz used ps n (k + 1) := ⟨h.rel, h.inv, h.len, h.few, by have := h.waits; omega, by have := h.syncs; omega⟩
theorem flat_ge : ∀ (ps : List (List UInt8)), (∀ p ∈ ps, 1 ≤ p.length ∧ p.length ≤ 4000) → ps.length ≤ (ps.flatMap frameB).length
  | [], _ => Nat.le_refl _
  | p :: ps, h => by
    rw [List.flatMap_cons, List.length_append, List.length_cons]
    have h1 := flat_ge ps (fun q hq => h q (by simp [hq]))
    have h2 := frame_len (h p (by simp)).1 (h p (by simp)).2
    omega
theorem LogRel.psNum (h : LogRel d r fr sz used ps n k) : ps.length ≤ 400 := by
  have h1 := flat_ge ps h.inv.ok
  have h2 := h.inv.len_
  have h3 := h.inv.le
  have h4 := h.inv.room
  have h5 := h.len
  have h6 := h.few
  omega
theorem LogRel.put (h : LogRel d r fr sz used ps n k) (p : List UInt8) :
    (logPut d fr sz used p).1 = (rlogPut fr sz r ps p).1 ∧ LogRel (logPut d fr sz used p).2.1 (rlogPut fr sz r ps p).2.1 fr sz (logPut d fr sz used p).2.2 (rlogPut fr sz r ps p).2.2 n (k + 1) := by
  unfold rlogPut
  rw [h.inv.len_]
  by_cases h0 : p.length = 0 ∨ 4000 < p.length
  · rw [logPut_bad h0, frameB_none h0, if_pos (by rfl)]
    exact ⟨rfl, h.mono⟩
  have hfl := frame_len (p := p) (by omega) (by omega)
  rw [if_neg (by omega)]
  by_cases hr : (frameB p).length + used ≤ sz
  · rw [if_neg (by omega), logPut_ok (by omega) (by omega) hr]
    have hI := h.inv.put (p := p) (by omega) (by omega) hr
    exact ⟨rfl, h.rel.write _ _, hI, by show (d.write _ _).lasts.length = n; rw [DSt.write_lasts]; exact h.len, h.few, Nat.le_trans (DSt.write_waits _ _ _) (by have := h.waits; omega), by show (d.write _ _).syncs ≤ _; rw [DSt.write_syncs]; have := h.syncs; omega⟩
  · rw [if_pos (by omega), logPut_full (by omega) (by omega) hr]
    exact ⟨rfl, h.mono⟩
theorem LogRel.app (h : LogRel d r fr sz used ps n k) (p : List UInt8) :
    (logApp d fr sz used p).1 = (rlogPut fr sz r ps p).1 ∧ LogRel (logApp d fr sz used p).2.1 (if (rlogPut fr sz r ps p).1 = 0 then (rlogPut fr sz r ps p).2.1.sync else (rlogPut fr sz r ps p).2.1) fr sz (logApp d fr sz used p).2.2 (rlogPut fr sz r ps p).2.2 n (k + 1) := by
  obtain ⟨e, hp⟩ := h.put p
  have hs := (logPut_lens d fr sz used p).2.1
  unfold logApp
  rw [e]
  refine ⟨rfl, ?_⟩
  by_cases h0 : (rlogPut fr sz r ps p).1 = 0
  · rw [if_pos h0, if_pos h0]
    have hI := hp.inv.sync
    exact ⟨hp.rel.sync hp.inv.fit, hI.1, by show (DSt.sync _).lasts.length = n; rw [hI.2]; exact hp.len, h.few, Nat.zero_le _, by show (DSt.sync _).syncs ≤ _; rw [(sync_waits _).2, hs]; have := h.syncs; omega⟩
  · rw [if_neg h0, if_neg h0]
    exact hp
theorem LogRel.clear (h : LogRel d r fr sz used ps n k) : LogRel (d.nought fr sz 0) (r.nought fr sz 0) fr sz 0 [] n (k + 1) := by
  obtain ⟨h1, h2, h3, h4⟩ := h.inv.clear
  exact ⟨h.rel.nought h.inv.fit h.inv.room (Nat.zero_le _), h1, by rw [h2]; exact h.len, h.few, by rw [h3]; exact Nat.zero_le _, by rw [h4]; have := h.syncs; omega⟩
end
/-- Two disks that are alike, whatever stands on them. -/
structure DiskRel (d : DSt) (r : RD) (n k : Nat) : Prop where
  rel : Rel d r
  fit : ∀ x ∈ d.waits, x.1 + x.2.length ≤ d.lasts.length
  len : d.lasts.length = n
  few : n ≤ 400
  waits : d.waits.length ≤ k
  syncs : d.syncs ≤ 2 + 3 * k
section
variable {d : DSt} {r : RD} {fr sz used n k : Nat} {ps : List (List UInt8)}
theorem DiskRel.crash (h : DiskRel d r n k) (keep : Int) : DiskRel (d.crash keep) (r.crash keep) n k :=
  ⟨h.rel.crash keep h.fit, fun x hx => by simp [DSt.crash] at hx, by show (dDone _ _ _).length = n; rw [dDone_len _ _ _ h.fit]; exact h.len, h.few, Nat.zero_le _, h.syncs⟩
theorem LogRel.disk (h : LogRel d r fr sz used ps n k) : DiskRel d r n k := ⟨h.rel, h.inv.fit, h.len, h.few, h.waits, by have := h.syncs; omega⟩
theorem DiskRel.psLen (h : DiskRel d r n k) : r.ps.length ≤ 400 * k := by
  rw [h.rel.ps, ← dWaits_flat]
  refine Nat.le_trans (dWaits_le h.fit) ?_
  rw [h.len, Nat.mul_comm]
  exact Nat.mul_le_mul h.few h.waits
theorem DiskRel.new {n : Nat} (hn : n ≤ 400) : DiskRel (DSt.new n) ⟨List.replicate n 0, [], 0⟩ n 0 :=
  ⟨Rel.new n, fun x hx => by simp [DSt.new] at hx, by simp [DSt.new], hn, Nat.le_refl _, Nat.zero_le _⟩
/-- What opening makes of them. -/
theorem DiskRel.open_ (h : DiskRel d r n k) (hr : fr + sz ≤ n) : ∃ (ps : List (List UInt8)) (used : Nat), fAll (piece d.bytes fr sz) 0 = (ps, (used : Int)) ∧ fAll (piece r.bytes fr sz) 0 = (ps, (used : Int)) ∧ used ≤ sz ∧ r.bytes.length = r.b.length ∧
    ∀ d' : DSt, LogInv d' fr sz used ps → d'.waits = [] → d'.syncs = d.syncs + 1 → d'.lasts.length = d.lasts.length → d.nought fr sz used = d' → LogRel d' (r.nought fr sz used) fr sz used ps n (k + 1) := by
  have hb := h.rel.bytes h.fit
  have hr' : fr + sz ≤ d.lasts.length := by rw [h.len]; exact hr
  obtain ⟨r1, r2, r3, r4⟩ := fAll_is (piece d.bytes fr sz)
  have hbl : d.bytes.length = d.lasts.length := dAll_len _ _ h.fit
  rw [piece_len (by rw [hbl]; exact hr')] at r3
  refine ⟨(fAll (piece d.bytes fr sz) 0).1, ((fAll (piece d.bytes fr sz) 0).1.flatMap frameB).length, by rw [← r2], by rw [hb, ← r2], r3, by rw [hb, hbl, h.rel.b], ?_⟩
  intro d' h1 h2 h3 h4 h5
  subst h5
  exact ⟨h.rel.nought h.fit hr' r3, h1, by rw [h4]; exact h.len, h.few, by rw [h2]; exact Nat.zero_le _, by rw [h3]; have := h.syncs; omega⟩
theorem logOpen_rel {w0 w : World} {tl : List Thing} {pd : Value} (S : St w0 w (diskT pd d :: tl)) (h : DiskRel d r n k) (h1 : 1 ≤ sz) (hr : fr + sz ≤ n) (hk : k ≤ 1000) : ∃ (ps : List (List UInt8)) (used : Nat), fAll (piece r.bytes fr sz) 0 = (ps, (used : Int)) ∧ used ≤ sz ∧ r.bytes.length = r.b.length ∧
    Calls Try.prog 31 #[pd, .int .i64 fr, .int .i64 sz] w fun e w' => ∃ g a c xs d', e = .returned (.tuple #[.pointer (some ⟨g, 0, none⟩), .slice a ps.length c, .int .i64 0]) ∧ xs.map BS.l = ps ∧ (∀ x ∈ xs, BS.Hd x) ∧
      LogRel d' (r.nought fr sz used) fr sz used ps n (k + 1) ∧ St w0 w' (cellsT g 99 (logC pd fr sz used) :: diskT pd d' :: rowsT eS bsRefs (.slice a ps.length c) xs :: tl) := by
  obtain ⟨ps, used, e1, e2, e3, e4, e5⟩ := h.open_ hr
  have hr' : fr + sz ≤ d.lasts.length := by rw [h.len]; exact hr
  refine ⟨ps, used, e2, e3, e4, ?_⟩
  obtain ⟨d', q1, q2, q3, q4, q5, q6⟩ := openInv h.fit hr' e1
  refine (logOpen_yes S fr sz h1 hr' (by have := h.waits; omega) (by have := h.syncs; omega)).mono ?_
  rintro e w' ⟨g, a, c, xs, p1, p2, p3, p4⟩
  rw [e1] at p1 p2 p4
  simp only [] at p1 p2 p4
  rw [q6, q1] at p4
  exact ⟨g, a, c, xs, d', p1, p2, p3, e5 d' q2 q3 q4 q5 q1, p4⟩
end

theorem LogRel.le {d : DSt} {r : RD} {fr sz used n k j : Nat} {ps : List (List UInt8)} (h : LogRel d r fr sz used ps n k) (hk : k ≤ j) : LogRel d r fr sz used ps n j := ⟨h.rel, h.inv, h.len, h.few, by have := h.waits; omega, by have := h.syncs; omega⟩
theorem same_rows2 {w0 w : World} {r : List Thing} (S : St w0 w r) {k j : Nat} {a b : Option Addr} {n m c c' : Nat} {xs ys : List BS} (hk : r[k]? = some (rowsT eS bsRefs (.slice a n c) xs)) (hx : ∀ x ∈ xs, BS.Hd x) (hj : r[j]? = some (rowsT eS bsRefs (.slice b m c') ys)) (hy : ∀ x ∈ ys, BS.Hd x) (hn : n ≤ 1000000) (hm : m ≤ 1000000) :
    Calls Try.prog 24 #[.slice a n c, .slice b m c'] w fun e w' => e = .returned (.bool (xs.map BS.l == ys.map BS.l)) ∧ St w0 w' r := by
  have A := S.rowsAt eSok k hk
  have B := S.rowsAt eSok j hj
  refine (same_any a b xs ys n m c c' w A.1 B.1 hn hm A.2.2.2.2.1 B.2.2.2.2.1 (fun x h => ⟨hx x h, A.2.2.2.2.2 x h _ (List.mem_singleton.2 rfl)⟩) (fun x h => ⟨hy x h, B.2.2.2.2.2 x h _ (List.mem_singleton.2 rfl)⟩)).mono ?_
  rintro e w' ⟨h1, h2⟩
  exact ⟨h1, S.grow h2⟩
theorem room_is {p : List UInt8} {sz u : Nat} (h1 : 1 ≤ p.length) (h2 : p.length ≤ 4000) (hu : u ≤ sz) : roomB sz u p.length = decide (((frameB p).length : Int) ≤ ((sz - u : Nat) : Int)) := by
  rw [frame_room h1 h2]
  congr 1
  rw [eq_iff_iff]
  omega
section
variable {w0 w : World} {tl : List Thing}
theorem logClear_nil (w : World) : Calls Try.prog 36 #[.pointer none] w fun e w' => e = .returned (.tuple #[]) ∧ w = w' := by
  go_enter Try.func36, Try.ntmps36
  go_wp2
  refine bodyPost_ret (results_none rfl _ _ _) rfl ⟨rfl, rfl⟩
theorem logPut_nil (w : World) (a : Option Addr) (n c : Nat) : Calls Try.prog 46 #[.pointer none, .slice a n c] w fun e w' => e = .returned (.int .i64 1) ∧ w = w' := by
  go_enter Try.func46, Try.ntmps46
  go_wp2
  go_ret
  exact ⟨rfl, rfl⟩
theorem logRoom_nil (w : World) (n : Int) : Calls Try.prog 37 #[.pointer none, .int .i64 n] w fun e w' => e = .returned (.bool false) ∧ Below w.heap.size w w' := by
  go_enter Try.func37, Try.ntmps37
  go_wp2_with fail
  refine wp_region_held_drew (S := (fun _ => True)) (by kernel_rfl) (by trivial) (fun hHeld => ?_)
  change wpAnyH _ _ _ _ _ 29 (Array.replicate 29 false) _ _
  refine wpAnyH_take (i := 0) (v := ?v1) (ops_at rfl) (by kernel_rfl) (by kernel_rfl) (by kernel_rfl) (fun _ _ _ h => h) (Or.inl ⟨by rfl, ?hy1⟩) (by assumption) ?rest1
  case hy1 => intro w' hSw; (try dsimp only at hSw); go_simp; try with_reducible rfl
  try simp only [Act.put, List.setIfInBounds_toArray, List.set_cons_zero, List.set_cons_succ]
  refine wpAnyH_take (i := 1) (v := ?v2) (ops_at rfl) (by kernel_rfl) (by kernel_rfl) (by kernel_rfl) (fun _ _ _ h => h) (Or.inl ⟨by rfl, ?hy2⟩) (by assumption) ?rest2
  case hy2 => intro w' hSw; (try dsimp only at hSw); go_simp; try with_reducible rfl
  try simp only [Act.put, List.setIfInBounds_toArray, List.set_cons_zero, List.set_cons_succ]
  refine wpAnyH_take (i := 2) (v := ?v3) (ops_at rfl) (by kernel_rfl) (by kernel_rfl) (by kernel_rfl) (fun _ _ _ h => h) (Or.inl ⟨by rfl, ?hy3⟩) (by assumption) ?rest3
  case hy3 => intro w' hSw; (try dsimp only at hSw); go_simp; try with_reducible rfl
  try simp only [Act.put, List.setIfInBounds_toArray, List.set_cons_zero, List.set_cons_succ]
  refine wpAnyH_take (i := 3) (v := undef) (ops_at rfl) (by kernel_rfl) (by kernel_rfl) (by kernel_rfl) (fun _ _ _ h => h) (Or.inr ⟨by rfl, rfl⟩) (by assumption) ?rest4
  try simp only [Act.put, List.setIfInBounds_toArray, List.set_cons_zero, List.set_cons_succ]
  refine wpAnyH_take (i := 4) (v := undef) (ops_at rfl) (by kernel_rfl) (by kernel_rfl) (by kernel_rfl) (fun _ _ _ h => h) (Or.inr ⟨by rfl, rfl⟩) (by assumption) ?rest5
  try simp only [Act.put, List.setIfInBounds_toArray, List.set_cons_zero, List.set_cons_succ]
  refine wpAnyH_take (i := 5) (v := ?v6) (ops_at rfl) (by kernel_rfl) (by kernel_rfl) (by kernel_rfl) (fun _ _ _ h => h) (Or.inl ⟨by rfl, ?hy6⟩) (by assumption) ?rest6
  case hy6 => intro w' hSw; (try dsimp only at hSw); go_simp; try with_reducible rfl
  try simp only [Act.put, List.setIfInBounds_toArray, List.set_cons_zero, List.set_cons_succ]
  refine wpAnyH_take (i := 6) (v := ?v7) (ops_at rfl) (by kernel_rfl) (by kernel_rfl) (by kernel_rfl) (fun _ _ _ h => h) (Or.inl ⟨by rfl, ?hy7⟩) (by assumption) ?rest7
  case hy7 => intro w' hSw; (try dsimp only at hSw); go_simp; try with_reducible rfl
  try simp only [Act.put, List.setIfInBounds_toArray, List.set_cons_zero, List.set_cons_succ]
  refine wpAnyH_take (i := 7) (v := undef) (ops_at rfl) (by kernel_rfl) (by kernel_rfl) (by kernel_rfl) (fun _ _ _ h => h) (Or.inr ⟨by rfl, rfl⟩) (by assumption) ?rest8
  try simp only [Act.put, List.setIfInBounds_toArray, List.set_cons_zero, List.set_cons_succ]
  refine wpAnyH_take (i := 8) (v := undef) (ops_at rfl) (by kernel_rfl) (by kernel_rfl) (by kernel_rfl) (fun _ _ _ h => h) (Or.inr ⟨by rfl, rfl⟩) (by assumption) ?rest9
  try simp only [Act.put, List.setIfInBounds_toArray, List.set_cons_zero, List.set_cons_succ]
  refine wpAnyH_take (i := 9) (v := ?v10) (ops_at rfl) (by kernel_rfl) (by kernel_rfl) (by kernel_rfl) (fun _ _ _ h => h) (Or.inl ⟨by rfl, ?hy10⟩) (by assumption) ?rest10
  case hy10 => intro w' hSw; (try dsimp only at hSw); go_simp; try with_reducible rfl
  try simp only [Act.put, List.setIfInBounds_toArray, List.set_cons_zero, List.set_cons_succ]
  refine wpAnyH_take (i := 10) (v := ?v11) (ops_at rfl) (by kernel_rfl) (by kernel_rfl) (by kernel_rfl) (fun _ _ _ h => h) (Or.inl ⟨by rfl, ?hy11⟩) (by assumption) ?rest11
  case hy11 => intro w' hSw; (try dsimp only at hSw); go_simp; try with_reducible rfl
  try simp only [Act.put, List.setIfInBounds_toArray, List.set_cons_zero, List.set_cons_succ]
  refine wpAnyH_take (i := 11) (v := undef) (ops_at rfl) (by kernel_rfl) (by kernel_rfl) (by kernel_rfl) (fun _ _ _ h => h) (Or.inr ⟨by rfl, rfl⟩) (by assumption) ?rest12
  try simp only [Act.put, List.setIfInBounds_toArray, List.set_cons_zero, List.set_cons_succ]
  refine wpAnyH_take (i := 12) (v := undef) (ops_at rfl) (by kernel_rfl) (by kernel_rfl) (by kernel_rfl) (fun _ _ _ h => h) (Or.inr ⟨by rfl, rfl⟩) (by assumption) ?rest13
  try simp only [Act.put, List.setIfInBounds_toArray, List.set_cons_zero, List.set_cons_succ]
  refine wpAnyH_take (i := 13) (v := undef) (ops_at rfl) (by kernel_rfl) (by kernel_rfl) (by kernel_rfl) (fun _ _ _ h => h) (Or.inr ⟨by rfl, rfl⟩) (by assumption) ?rest14
  try simp only [Act.put, List.setIfInBounds_toArray, List.set_cons_zero, List.set_cons_succ]
  refine wpAnyH_take (i := 14) (v := undef) (ops_at rfl) (by kernel_rfl) (by kernel_rfl) (by kernel_rfl) (fun _ _ _ h => h) (Or.inr ⟨by rfl, rfl⟩) (by assumption) ?rest15
  try simp only [Act.put, List.setIfInBounds_toArray, List.set_cons_zero, List.set_cons_succ]
  refine wpAnyH_take (i := 15) (v := undef) (ops_at rfl) (by kernel_rfl) (by kernel_rfl) (by kernel_rfl) (fun _ _ _ h => h) (Or.inr ⟨by rfl, rfl⟩) (by assumption) ?rest16
  try simp only [Act.put, List.setIfInBounds_toArray, List.set_cons_zero, List.set_cons_succ]
  refine wpAnyH_take (i := 16) (v := undef) (ops_at rfl) (by kernel_rfl) (by kernel_rfl) (by kernel_rfl) (fun _ _ _ h => h) (Or.inr ⟨by rfl, rfl⟩) (by assumption) ?rest17
  try simp only [Act.put, List.setIfInBounds_toArray, List.set_cons_zero, List.set_cons_succ]
  refine wpAnyH_take (i := 17) (v := undef) (ops_at rfl) (by kernel_rfl) (by kernel_rfl) (by kernel_rfl) (fun _ _ _ h => h) (Or.inr ⟨by rfl, rfl⟩) (by assumption) ?rest18
  try simp only [Act.put, List.setIfInBounds_toArray, List.set_cons_zero, List.set_cons_succ]
  refine wpAnyH_take (i := 18) (v := undef) (ops_at rfl) (by kernel_rfl) (by kernel_rfl) (by kernel_rfl) (fun _ _ _ h => h) (Or.inr ⟨by rfl, rfl⟩) (by assumption) ?rest19
  try simp only [Act.put, List.setIfInBounds_toArray, List.set_cons_zero, List.set_cons_succ]
  refine wpAnyH_take (i := 19) (v := undef) (ops_at rfl) (by kernel_rfl) (by kernel_rfl) (by kernel_rfl) (fun _ _ _ h => h) (Or.inr ⟨by rfl, rfl⟩) (by assumption) ?rest20
  try simp only [Act.put, List.setIfInBounds_toArray, List.set_cons_zero, List.set_cons_succ]
  refine wpAnyH_take (i := 20) (v := undef) (ops_at rfl) (by kernel_rfl) (by kernel_rfl) (by kernel_rfl) (fun _ _ _ h => h) (Or.inr ⟨by rfl, rfl⟩) (by assumption) ?rest21
  try simp only [Act.put, List.setIfInBounds_toArray, List.set_cons_zero, List.set_cons_succ]
  refine wpAnyH_take (i := 21) (v := undef) (ops_at rfl) (by kernel_rfl) (by kernel_rfl) (by kernel_rfl) (fun _ _ _ h => h) (Or.inr ⟨by rfl, rfl⟩) (by assumption) ?rest22
  try simp only [Act.put, List.setIfInBounds_toArray, List.set_cons_zero, List.set_cons_succ]
  refine wpAnyH_take (i := 22) (v := undef) (ops_at rfl) (by kernel_rfl) (by kernel_rfl) (by kernel_rfl) (fun _ _ _ h => h) (Or.inr ⟨by rfl, rfl⟩) (by assumption) ?rest23
  try simp only [Act.put, List.setIfInBounds_toArray, List.set_cons_zero, List.set_cons_succ]
  refine wpAnyH_take (i := 23) (v := undef) (ops_at rfl) (by kernel_rfl) (by kernel_rfl) (by kernel_rfl) (fun _ _ _ h => h) (Or.inr ⟨by rfl, rfl⟩) (by assumption) ?rest24
  try simp only [Act.put, List.setIfInBounds_toArray, List.set_cons_zero, List.set_cons_succ]
  refine wpAnyH_take (i := 24) (v := undef) (ops_at rfl) (by kernel_rfl) (by kernel_rfl) (by kernel_rfl) (fun _ _ _ h => h) (Or.inr ⟨by rfl, rfl⟩) (by assumption) ?rest25
  try simp only [Act.put, List.setIfInBounds_toArray, List.set_cons_zero, List.set_cons_succ]
  refine wpAnyH_take (i := 25) (v := undef) (ops_at rfl) (by kernel_rfl) (by kernel_rfl) (by kernel_rfl) (fun _ _ _ h => h) (Or.inr ⟨by rfl, rfl⟩) (by assumption) ?rest26
  try simp only [Act.put, List.setIfInBounds_toArray, List.set_cons_zero, List.set_cons_succ]
  refine wpAnyH_take (i := 26) (v := undef) (ops_at rfl) (by kernel_rfl) (by kernel_rfl) (by kernel_rfl) (fun _ _ _ h => h) (Or.inr ⟨by rfl, rfl⟩) (by assumption) ?rest27
  try simp only [Act.put, List.setIfInBounds_toArray, List.set_cons_zero, List.set_cons_succ]
  refine wpAnyH_take (i := 27) (v := ?v28) (ops_at rfl) (by kernel_rfl) (by kernel_rfl) (by kernel_rfl) (fun _ _ _ h => h) (Or.inl ⟨by rfl, ?hy28⟩) (by assumption) ?rest28
  case hy28 => intro w' hSw; (try dsimp only at hSw); go_simp; try with_reducible rfl
  try simp only [Act.put, List.setIfInBounds_toArray, List.set_cons_zero, List.set_cons_succ]
  refine wpAnyH_take (i := 28) (v := ?v29) (ops_at rfl) (by kernel_rfl) (by kernel_rfl) (by kernel_rfl) (fun _ _ _ h => h) (Or.inl ⟨by rfl, ?hy29⟩) (by assumption) ?rest29
  case hy29 => intro w' hSw; (try dsimp only at hSw); go_simp; try with_reducible rfl
  try simp only [Act.put, List.setIfInBounds_toArray, List.set_cons_zero, List.set_cons_succ]
  refine wpAnyH_done (by kernel_rfl) ?_ _
  go_wp2
  go_ret
  exact ⟨rfl, (St.start w).drew.fin⟩
end

end Go.Proofs.Ytmfbbonppmhabaa
