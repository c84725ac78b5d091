/- Watch: Count, Free, Behind; the document's Count. -/
import Derived.Test.YtilobmefomoemaaWatch3
namespace Go.Proofs.Ytilobmefomoemaa
set_option linter.unusedVariables false
set_option linter.unusedSimpArgs false
open Go.RowKit
theorem GInv.val {G : List GE} {l : List AG} (h : GInv G l) (j i : Int) : ∃ p c, gVal G j i = .slice p (cntG l j i) c := by
  unfold gVal
  cases hf : G.find? (gAt j i) with
  | some x =>
    have h1 := List.find?_some hf
    obtain ⟨e1, e2⟩ := gAt_iff.1 h1
    have h2 := (h.len x (List.mem_of_find?_eq_some hf)).1
    rw [e1, e2] at h2
    exact ⟨x.a, x.c, by rw [← h2]; rfl⟩
  | none =>
    have h0 : cntG l j i = 0 := by
      unfold cntG
      rw [List.length_eq_zero_iff, List.filter_eq_nil_iff]
      intro b hb hh
      unfold ofG at hh
      simp only [Bool.and_eq_true, decide_eq_true_eq] at hh
      obtain ⟨x, hx, h1, h2⟩ := h.all b hb hh.1
      have := List.find?_eq_none.1 hf x hx
      exact this (gAt_iff.2 ⟨h1.trans hh.2.1, h2.trans hh.2.2⟩)
    exact ⟨none, 0, by rw [h0]⟩
set_option maxRecDepth 10000 in
theorem wtCount (a : Option Addr) (L : List AG) (n cap : Nat) (job inc : Int) (w : World) (hn : L.length = n) (hm : n ≤ 1000000) (hA : AtG eAG w a L) :
    Calls Try.prog 9 #[.slice a n cap, .int .i64 job, .int .i64 inc] w fun e w' => e = .returned (.int .i64 (cntG L job inc : Int)) ∧ Below w.heap.size w w' := by
  have HG := fun w hA => wtGangs a L n cap w hn hm hA
  go_enter Try.func9, Try.ntmps9
  go_wp2_with fail
  refine (HG _ hA).mono ?_
  rintro e w1 ⟨g, G, rfl, hI, -, S1⟩
  have hlk := lookG (S1.obj (g := g) (o := .map (gEs 0 G).toArray G.length) 0 rfl) job inc
  obtain ⟨p, c, hv⟩ := hI.val job inc
  rw [hv] at hlk
  obtain ⟨m, hm2⟩ : ∃ m, cntG L job inc = m := ⟨_, rfl⟩
  rw [hm2] at hlk
  have HM := hid hm2
  clear hv hI HG hn hA hm2
  go_wp2
  go_ret
  exact ⟨by rw [HM.out]; rfl, S1.fin⟩
set_option maxRecDepth 10000 in
set_option maxHeartbeats 3200000 in
theorem rtCount (a : Option Addr) (L : List AG) (n cap : Nat) (job inc : Int) (w : World) (hn : L.length = n) (hm : n ≤ 1000000) (hA : AtG eAG w a L) :
    Calls Try.prog 10 #[.slice a n cap, .int .i64 job, .int .i64 inc] w fun e w' => e = .returned (.int .i64 (cntG L job inc : Int)) ∧ Below w.heap.size w w' := by
  have HN := hid hn
  have HA := hid hA
  have S0 := St.start w
  clear hn hA
  go_enter Try.func10, Try.ntmps10
  go_wp2_with fail
  go_loopw [7, 8] (fun q i wr => ∃ k : Nat, k ≤ n ∧ q = .int .i64 (cntG (L.take k) job inc : Int) ∧ i = .int .i64 k ∧ St w wr []) (fun _ i _ => n - (intOf i).toNat)
  case atStart => exact ⟨0, Nat.zero_le _, rfl, rfl, S0⟩
  case round =>
    obtain ⟨k, hk, rfl, rfl, Sk⟩ := hrel
    clear S0
    by_cases hlt : k < n
    case neg =>
      have g0 : decide ((k : Int) < (n : Int)) = false := decide_eq_false (by omega)
      have g0n : decide (k < n) = false := decide_eq_false (by omega)
      have e : Hid (cntG (L.take k) job inc = cntG L job inc) := by rw [Hid, List.take_of_length_le (by rw [HN.out]; omega)]
      clear hlt
      go_wp2
      go_ret
      exact ⟨by rw [e.out]; rfl, Sk.fin⟩
    have g0 : decide ((k : Int) < (n : Int)) = true := decide_eq_true (by omega)
    have g0n : decide (k < n) = true := decide_eq_true (by omega)
    have hkl : k < L.length := by rw [HN.out]; exact hlt
    have hAk : AtG eAG wr a L := HA.out.all eAGok Sk.fin
    have i0 := fun wx => idxAG a n cap (fun h => hAk.ok (by omega)) k hlt wx
    have HX : Hid (∀ w', Below w.heap.size w w' → AgAt w' (adr a (k * 10)) L[k]) := fun w' hb => (HA.out.all eAGok hb).agAt hkl
    have HC : Hid (cntG (L.take (k + 1)) job inc = cntG (L.take k) job inc + if ofG job inc L[k] = true then 1 else 0) := by rw [Hid, List.take_add_one, List.getElem?_eq_getElem hkl]; exact cntG_app _ _ _ _
    have hcl : cntG (L.take k) job inc ≤ k := by refine Nat.le_trans (cntG_le _ _ _) ?_; rw [List.length_take]; omega
    generalize L[k] = x at *
    generalize adr a (k * 10) = A at *
    generalize cntG (L.take k) job inc = m at *
    clear hAk
    obtain ⟨y0, y1, y2, y3, y4, y5, y6, y7, y8, y9⟩ := HX.out _ Sk.fin
    go_wp2_with fail
    refine (rtHas x _).mono ?_
    rintro e w3 ⟨rfl, hb3⟩
    have S3 := Sk.grow hb3
    clear hb3 Sk y0 y1 y2 y3 y4 y5 y6 y7 y8 y9
    obtain ⟨y0, y1, y2, y3, y4, y5, y6, y7, y8, y9⟩ := HX.out _ S3.fin
    cases hh : hasA x
    · have E : Hid (cntG (L.take (k + 1)) job inc = m) := by rw [Hid, HC.out, if_neg (by unfold ofG; rw [hh]; simp)]; rfl
      clear hh HC
      go_wp2
      go_roundw
      case rel => exact ⟨k + 1, by omega, by rw [E.out], by go_num, S3⟩
      case measure => simp [intOf]; omega
    cases b1 : (x.job == job)
    · have E : Hid (cntG (L.take (k + 1)) job inc = m) := by rw [Hid, HC.out, if_neg (by unfold ofG; intro h; simp only [Bool.and_eq_true, decide_eq_true_eq] at h; rw [h.2.1] at b1; simp at b1)]; rfl
      clear hh HC
      go_wp2
      go_roundw
      case rel => exact ⟨k + 1, by omega, by rw [E.out], by go_num, S3⟩
      case measure => simp [intOf]; omega
    cases b2 : (x.inc == inc)
    · have E : Hid (cntG (L.take (k + 1)) job inc = m) := by rw [Hid, HC.out, if_neg (by unfold ofG; intro h; simp only [Bool.and_eq_true, decide_eq_true_eq] at h; rw [h.2.2] at b2; simp at b2)]; rfl
      clear hh HC
      go_wp2
      go_roundw
      case rel => exact ⟨k + 1, by omega, by rw [E.out], by go_num, S3⟩
      case measure => simp [intOf]; omega
    have E : Hid (cntG (L.take (k + 1)) job inc = m + 1) := by rw [Hid, HC.out, if_pos (by unfold ofG; rw [hh]; simp at b1 b2; simp [b1, b2])]
    clear hh HC
    go_wp2
    go_roundw
    case rel => exact ⟨k + 1, by omega, by rw [E.out]; go_num, by go_num, S3⟩
    case measure => simp [intOf]; omega
def meantS (s : STA) : Int := if s.mode = 2 then s.prior else s.goal
set_option maxRecDepth 10000 in
set_option maxHeartbeats 1600000 in
theorem wtMeant (s : STA) (w : World) : Calls Try.prog 22 #[.agg #[.slice s.na s.nn s.nc, .slice s.ja s.jn s.jc, .int .i64 s.goal, .int .i64 s.prior, .int .i64 s.mode, .int .i64 s.term]] w fun e w' => e = .returned (.int .i64 (meantS s)) ∧ Below w.heap.size w w' := by
  have hb := ((St.start w).alloc (.cells #[.slice s.na s.nn s.nc, .slice s.ja s.jn s.jc, .int .i64 s.goal, .int .i64 s.prior, .int .i64 s.mode, .int .i64 s.term] 25)).fin
  by_cases h : s.mode = 2
  · have g : (s.mode == 2) = true := by simpa using h
    have E : Hid (meantS s = s.prior) := if_pos h
    clear h
    go_enter Try.func22, Try.ntmps22
    go_wp2
    go_ret
    exact ⟨by rw [E.out]; rfl, hb⟩
  · have g : (s.mode == 2) = false := by simpa using h
    have E : Hid (meantS s = s.goal) := if_neg h
    clear h
    go_enter Try.func22, Try.ntmps22
    go_wp2
    go_ret
    exact ⟨by rw [E.out]; rfl, hb⟩
def behL (v : Int) (l : List AG) : Nat := (l.filter fun a => a.version != v).length
theorem behL_app (v : Int) (l : List AG) (a : AG) : behL v (l ++ [a]) = behL v l + if (a.version != v) = true then 1 else 0 := by
  unfold behL
  rw [List.filter_append, List.length_append]
  congr 1
  cases h : (a.version != v) <;> simp [h]
theorem behL_le (v : Int) (l : List AG) : behL v l ≤ l.length := List.length_filter_le _ _
set_option maxRecDepth 10000 in
set_option maxHeartbeats 3200000 in
theorem wtBehind (s : STA) (a : Option Addr) (L : List AG) (n cap : Nat) (w : World) (hn : L.length = n) (hm : n ≤ 1000000) (hA : AtG eAG w a L) :
    Calls Try.prog 13 #[.agg #[.slice s.na s.nn s.nc, .slice s.ja s.jn s.jc, .int .i64 s.goal, .int .i64 s.prior, .int .i64 s.mode, .int .i64 s.term], .slice a n cap] w fun e w' => e = .returned (.int .i64 (behL (meantS s) L : Int)) ∧ Below w.heap.size w w' := by
  have HN := hid hn
  have HA := hid hA
  have S0 : St w _ [cellsT w.heap.size 25 s.cs] := (St.start w).newAt 25 #[.slice s.na s.nn s.nc, .slice s.ja s.jn s.jc, .int .i64 s.goal, .int .i64 s.prior, .int .i64 s.mode, .int .i64 s.term] w.heap.size rfl
  clear hn hA
  go_enter Try.func13, Try.ntmps13
  go_wp2_with fail
  generalize w.alloc _ = w1 at *
  obtain ⟨g, hg⟩ : ∃ g, w.heap.size = g := ⟨_, rfl⟩
  rw [hg] at S0 ⊢
  go_loopw [5, 10] (fun q i wr => ∃ k : Nat, k ≤ n ∧ q = .int .i64 (behL (meantS s) (L.take k) : Int) ∧ i = .int .i64 k ∧ St w wr [cellsT g 25 s.cs]) (fun _ i _ => n - (intOf i).toNat)
  case atStart => exact ⟨0, Nat.zero_le _, rfl, rfl, S0⟩
  case round =>
    obtain ⟨k, hk, rfl, rfl, Sk⟩ := hrel
    clear S0
    by_cases hlt : k < n
    case neg =>
      have g0 : decide ((k : Int) < (n : Int)) = false := decide_eq_false (by omega)
      have g0n : decide (k < n) = false := decide_eq_false (by omega)
      have e : Hid (behL (meantS s) (L.take k) = behL (meantS s) L) := by rw [Hid, List.take_of_length_le (by rw [HN.out]; omega)]
      clear hlt
      go_wp2
      go_ret
      exact ⟨by rw [e.out]; rfl, by rw [hg]; have := Sk.fin; rw [hg] at this; exact this⟩
    have g0 : decide ((k : Int) < (n : Int)) = true := decide_eq_true (by omega)
    have g0n : decide (k < n) = true := decide_eq_true (by omega)
    have hkl : k < L.length := by rw [HN.out]; exact hlt
    have hAk : AtG eAG wr a L := HA.out.all eAGok Sk.fin
    have i0 := fun wx => idxAG a n cap (fun h => hAk.ok (by omega)) k hlt wx
    obtain ⟨y0, y1, y2, y3, y4, y5, y6, y7, y8, y9⟩ := hAk.agAt hkl
    have HC : Hid (behL (meantS s) (L.take (k + 1)) = behL (meantS s) (L.take k) + if (L[k].version != meantS s) = true then 1 else 0) := by rw [Hid, List.take_add_one, List.getElem?_eq_getElem hkl]; exact behL_app _ _ _
    have hcl : behL (meantS s) (L.take k) ≤ k := by refine Nat.le_trans (behL_le _ _) ?_; rw [List.length_take]; omega
    generalize L[k] = x at *
    generalize adr a (k * 10) = A at *
    generalize behL (meantS s) (L.take k) = m at *
    clear hAk
    have S2 : St w (wr.alloc (.cells #[.bool x.up, .int .i64 x.term, .int .i64 x.gen, .int .i64 x.mode, .int .i64 x.job, .int .i64 x.inc, .int .i64 x.version, .int .i64 x.lease, .int .i64 x.worked, .int .i64 x.to_] 31)) [cellsT wr.heap.size 31 x.cs, cellsT g 25 s.cs] := (newAtG Sk 31 #[.bool x.up, .int .i64 x.term, .int .i64 x.gen, .int .i64 x.mode, .int .i64 x.job, .int .i64 x.inc, .int .i64 x.version, .int .i64 x.lease, .int .i64 x.worked, .int .i64 x.to_] _ rfl).rot
    go_wp2_with fail
    generalize wr.heap.size = b at *
    generalize wr.alloc _ = w2 at *
    clear Sk y0 y1 y2 y3 y4 y5 y6 y7 y8 y9 i0
    have keep : ∀ {w' : World}, St w w' [cellsT b 31 x.cs, cellsT g 25 s.cs] → (w'.cell? ⟨b, 6, none⟩ = some (.int .i64 x.version) ∧ w'.cell? ⟨g, 0, none⟩ = some (.slice s.na s.nn s.nc) ∧ w'.cell? ⟨g, 1, none⟩ = some (.slice s.ja s.jn s.jc) ∧ w'.cell? ⟨g, 2, none⟩ = some (.int .i64 s.goal) ∧ w'.cell? ⟨g, 3, none⟩ = some (.int .i64 s.prior) ∧ w'.cell? ⟨g, 4, none⟩ = some (.int .i64 s.mode) ∧ w'.cell? ⟨g, 5, none⟩ = some (.int .i64 s.term)) := fun S => ⟨S.cell 0 rfl 6 rfl, S.cell 1 rfl 0 rfl, S.cell 1 rfl 1 rfl, S.cell 1 rfl 2 rfl, S.cell 1 rfl 3 rfl, S.cell 1 rfl 4 rfl, S.cell 1 rfl 5 rfl⟩
    refine wp_region_held_drew (S := (fun w' => (w'.cell? ⟨b, 6, none⟩ = some (.int .i64 x.version) ∧ w'.cell? ⟨g, 0, none⟩ = some (.slice s.na s.nn s.nc) ∧ w'.cell? ⟨g, 1, none⟩ = some (.slice s.ja s.jn s.jc) ∧ w'.cell? ⟨g, 2, none⟩ = some (.int .i64 s.goal) ∧ w'.cell? ⟨g, 3, none⟩ = some (.int .i64 s.prior) ∧ w'.cell? ⟨g, 4, none⟩ = some (.int .i64 s.mode) ∧ w'.cell? ⟨g, 5, none⟩ = some (.int .i64 s.term)))) (by kernel_rfl) (by exact keep S2.drew) (fun hHeld => ?_)
    change wpAnyH _ _ _ _ _ 5 (Array.replicate 5 false) _ _
    refine wpAnyH_take (i := 0) (v := ?v1) (ops_at rfl) (by kernel_rfl) (by kernel_rfl) (by kernel_rfl) (fun _ _ _ h => h) (Or.inl ⟨by rfl, ?hy1⟩) (by assumption) ?rest1
    case hy1 => intro w' hSw; (try dsimp only at hSw); go_simp; try with_reducible rfl
    try simp only [Act.put, List.setIfInBounds_toArray, List.set_cons_zero, List.set_cons_succ]
    refine wpAnyH_take (i := 1) (v := ?v2) (ops_at rfl) (by kernel_rfl) (by kernel_rfl) (by kernel_rfl) (fun _ _ _ h => h) (Or.inl ⟨by rfl, ?hy2⟩) (by assumption) ?rest2
    case hy2 => intro w' hSw; (try dsimp only at hSw); go_simp; try with_reducible rfl
    try simp only [Act.put, List.setIfInBounds_toArray, List.set_cons_zero, List.set_cons_succ]
    refine wpAnyH_take (i := 2) (v := ?v3) (ops_at rfl) (by kernel_rfl) (by kernel_rfl) (by kernel_rfl) (fun _ _ _ h => h) (Or.inl ⟨by rfl, ?hy3⟩) (by assumption) ?rest3
    case hy3 => intro w' hSw; (try dsimp only at hSw); go_simp; try with_reducible rfl
    try simp only [Act.put, List.setIfInBounds_toArray, List.set_cons_zero, List.set_cons_succ]
    refine wpAnyH_ready (rs := [3]) (by kernel_rfl) (by simp) ?_
    refine AllReadyH.cons (ops_at rfl) (fun K hK => ?_) AllReadyH.nil
    go_simp
    refine (wtMeant s _).mono ?_
    rintro e w3 ⟨rfl, hb3⟩
    have S3 := S2.drew.grow hb3
    refine hK.out _ _ (by exact keep S3) (fun hHeld => ?_)
    clear hK K
    try simp only [Act.put, List.setIfInBounds_toArray, List.set_cons_zero, List.set_cons_succ]
    refine wpAnyH_take (i := 4) (v := ?v5) (ops_at rfl) (by kernel_rfl) (by kernel_rfl) (by kernel_rfl) (fun _ _ _ h => h) (Or.inl ⟨by rfl, ?hy5⟩) (by assumption) ?rest5
    case hy5 => intro w' hSw; (try dsimp only at hSw); go_simp; try with_reducible rfl
    try simp only [Act.put, List.setIfInBounds_toArray, List.set_cons_zero, List.set_cons_succ]
    refine wpAnyH_done (by kernel_rfl) ?_ _
    cases hv : (x.version != meantS s)
    · have E : Hid (behL (meantS s) (L.take (k + 1)) = m) := by rw [Hid, HC.out, hv]; rfl
      clear HC
      go_wp2
      go_roundw
      case rel => exact ⟨k + 1, by omega, by rw [E.out], by go_num, S3.tail⟩
      case measure => simp [intOf]; omega
    · have E : Hid (behL (meantS s) (L.take (k + 1)) = m + 1) := by rw [Hid, HC.out, hv]; rfl
      clear HC
      go_wp2
      go_roundw
      case rel => exact ⟨k + 1, by omega, by rw [E.out]; go_num, by go_num, S3.tail⟩
      case measure => simp [intOf]; omega
end Go.Proofs.Ytilobmefomoemaa
