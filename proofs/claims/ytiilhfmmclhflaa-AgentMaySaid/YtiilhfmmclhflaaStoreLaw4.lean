/- StoreKeeps. -/
import Derived.Test.YtiilhfmmclhflaaStoreLaws
namespace Go.Proofs.Ytiilhfmmclhflaa
set_option linter.unusedVariables false
set_option linter.unusedSimpArgs false
open Go.RowKit
theorem SS.job_put' {s : SS} (h : s.js.length = 25) {n m : Int} (hn : jobOk n) (hm : jobOk m) (y : PS) : (s.put n y).job m = if m = n then y else s.job m := by
  unfold SS.put SS.job jobOk at *
  by_cases e : m = n
  · subst e; rw [if_pos rfl]; simp [List.getD, show m.toNat < s.js.length by omega]
  · rw [if_neg e]
    simp only [List.getD]
    rw [List.getElem?_set_ne (by omega)]
theorem SS.job_mem {s : SS} (h : s.js.length = 25) {n : Int} (hn : jobOk n) : s.job n ∈ s.js := by
  unfold jobOk at hn
  have hlt : n.toNat < s.js.length := by omega
  have : s.job n = s.js[n.toNat] := by unfold SS.job; simp [List.getD, hlt]
  rw [this]; exact List.getElem_mem hlt
def PS.size (x : PS) : Nat := x.cd.length + x.sd.length
theorem usedP_set : ∀ (l : List PS) (n : Nat) (y : PS) (h : n < l.length), usedP (l.set n y) + (l[n]).size = usedP l + y.size
  | [], n, y, h => by simp at h
  | x :: l, 0, y, h => by
    simp only [List.set_cons_zero, usedP, List.map_cons, List.sum_cons, List.getElem_cons_zero, PS.size]; omega
  | x :: l, n + 1, y, h => by
    have := usedP_set l n y (by simpa using h)
    simp only [List.set_cons_succ, usedP, List.map_cons, List.sum_cons, List.getElem_cons_succ, PS.size] at this ⊢
    omega
theorem usedP_put {s : SS} (h : s.js.length = 25) {n : Int} (hn : jobOk n) (y : PS) : usedP (s.put n y).js + (s.job n).size = usedP s.js + y.size := by
  unfold jobOk at hn
  have hlt : n.toNat < s.js.length := by omega
  have e : s.job n = s.js[n.toNat] := by unfold SS.job; simp [List.getD, hlt]
  rw [e]
  exact usedP_set s.js n.toNat y hlt
/-- How a store is that was never fenced in from outside. -/
structure SK (s : SS) (R : Int) : Prop where
  len : s.js.length = 25
  order : ∀ x ∈ s.js, 0 ≤ x.ce ∧ (1 ≤ x.se → x.ce < x.se)
  used : (usedP s.js : Int) ≤ R
  room : s.room = R
/-- What a step may do to what counts. -/
def SKeep (s s' : SS) (job : Int) : Prop := sCounts s job ≤ sCounts s' job ∧ (sCounts s' job = sCounts s job → sGet s' job (sCounts s job) = sGet s job (sCounts s job))
theorem SKeep.refl (s : SS) (job : Int) : SKeep s s job := ⟨Int.le_refl _, fun _ => rfl⟩
theorem sGet_counts (s : SS) (job : Int) : sGet s job (sCounts s job) = if jobOk job ∧ 1 ≤ sCounts s job then some (s.job job).cd else none := by
  unfold sGet
  by_cases h : jobOk job
  · by_cases h1 : sCounts s job < 1
    · rw [if_pos (.inr h1), if_neg (by omega)]
    · have : (s.job job).ce = sCounts s job := by unfold sCounts; rw [if_pos h]
      rw [if_neg (by rintro (q | q); exact q h; exact h1 q), if_pos this, if_pos ⟨h, by omega⟩]
  · rw [if_pos (.inl h), if_neg (fun q => h q.1)]
theorem SKeep.of {s s' : SS} {job : Int} (h : jobOk job → (s.job job).ce ≤ (s'.job job).ce ∧ ((s'.job job).ce = (s.job job).ce → (s'.job job).cd = (s.job job).cd)) : SKeep s s' job := by
  by_cases hj : jobOk job
  · obtain ⟨h1, h2⟩ := h hj
    have e1 : sCounts s job = (s.job job).ce := by unfold sCounts; rw [if_pos hj]
    have e2 : sCounts s' job = (s'.job job).ce := by unfold sCounts; rw [if_pos hj]
    refine ⟨by rw [e1, e2]; exact h1, fun h3 => ?_⟩
    rw [sGet_counts]
    have := sGet_counts s' job
    rw [h3] at this
    rw [this, h2 (by rw [← e1, ← e2]; exact h3)]
  · have e1 : ∀ s : SS, sCounts s job = 0 := fun s => by unfold sCounts; rw [if_neg hj]
    refine ⟨by rw [e1, e1]; exact Int.le_refl _, fun _ => ?_⟩
    have h1 := sGet_counts s job
    have h2 := sGet_counts s' job
    rw [if_neg (fun q => hj q.1)] at h1 h2
    rw [e1] at h2
    rw [h1, e1, h2]
theorem SK.stage {s : SS} {R : Int} (h : SK s R) (t j e : Int) (b : List UInt8) : SK (sStage s t j e b).2 R ∧ ∀ job, SKeep s (sStage s t j e b).2 job := by
  unfold sStage
  split
  · exact ⟨h, fun _ => SKeep.refl _ _⟩
  split
  · exact ⟨h, fun _ => SKeep.refl _ _⟩
  rename_i h1 h2
  simp only [not_or, Decidable.not_not] at h2
  obtain ⟨hj, q2, q3, q4, q5⟩ := h2
  split
  · exact ⟨h, fun _ => SKeep.refl _ _⟩
  rename_i h3
  split
  · exact ⟨h, fun _ => SKeep.refl _ _⟩
  split
  · exact ⟨h, fun _ => SKeep.refl _ _⟩
  rename_i h4 h5
  have hx := h.order _ (SS.job_mem h.len hj)
  have hu := usedP_put h.len hj ⟨(s.job j).ce, (s.job j).cd, e, b⟩
  refine ⟨⟨by show (s.js.set _ _).length = 25; rw [List.length_set]; exact h.len, mem_put h.order ⟨hx.1, fun _ => by show (s.job j).ce < e; omega⟩, ?_, h.room⟩, fun job => SKeep.of fun hjob => ?_⟩
  · have h6 := h.room
    show (usedP (s.put j ⟨(s.job j).ce, (s.job j).cd, e, b⟩).js : Int) ≤ R
    simp only [PS.size] at hu
    omega
  · show (s.job job).ce ≤ ((s.put j _).job job).ce ∧ (((s.put j _).job job).ce = _ → ((s.put j _).job job).cd = _)
    rw [SS.job_put' h.len hj hjob]
    split
    · rename_i hq; subst hq; exact ⟨Int.le_refl _, fun _ => rfl⟩
    · exact ⟨Int.le_refl _, fun _ => rfl⟩
theorem SK.commit {s : SS} {R : Int} (h : SK s R) (j e : Int) : SK (sCommit s j e).2 R ∧ ∀ job, SKeep s (sCommit s j e).2 job := by
  unfold sCommit
  split
  · exact ⟨h, fun _ => SKeep.refl _ _⟩
  rename_i h1
  simp only [not_or, Decidable.not_not] at h1
  obtain ⟨hj, q2, q3⟩ := h1
  split
  · rename_i h2
    have hx := h.order _ (SS.job_mem h.len hj)
    have hu := usedP_put h.len hj ⟨(s.job j).se, (s.job j).sd, 0, []⟩
    have hlt := hx.2 (by omega)
    refine ⟨⟨by show (s.js.set _ _).length = 25; rw [List.length_set]; exact h.len, mem_put h.order ⟨by show 0 ≤ (s.job j).se; omega, fun q => by cases q⟩, ?_, h.room⟩, fun job => SKeep.of fun hjob => ?_⟩
    · have h6 := h.used
      show (usedP (s.put j ⟨(s.job j).se, (s.job j).sd, 0, []⟩).js : Int) ≤ R
      simp only [PS.size, List.length_nil] at hu
      omega
    · show (s.job job).ce ≤ ((s.put j _).job job).ce ∧ (((s.put j _).job job).ce = _ → ((s.put j _).job job).cd = _)
      rw [SS.job_put' h.len hj hjob]
      split
      · rename_i hq; subst hq; exact ⟨by show (s.job job).ce ≤ (s.job job).se; omega, fun q => by exfalso; have : (s.job job).se = (s.job job).ce := q; omega⟩
      · exact ⟨Int.le_refl _, fun _ => rfl⟩
  · exact ⟨h, fun _ => SKeep.refl _ _⟩
theorem SK.end_ {s : SS} {R : Int} (h : SK s R) (j : Int) : SK (sEnd s j) R ∧ (∀ job, job ≠ j → SKeep s (sEnd s j) job) ∧ sCounts (sEnd s j) j = 0 := by
  unfold sEnd
  split
  · rename_i hj
    have hu := usedP_put h.len hj PS.nil
    refine ⟨⟨by show (s.js.set _ _).length = 25; rw [List.length_set]; exact h.len, mem_put h.order ⟨Int.le_refl _, fun q => by cases q⟩, ?_, h.room⟩, fun job hne => SKeep.of fun hjob => ?_, ?_⟩
    · have h6 := h.used
      show (usedP (s.put j PS.nil).js : Int) ≤ R
      rw [show PS.nil.size = 0 from rfl] at hu
      omega
    · rw [SS.job_put' h.len hj hjob, if_neg hne]
      exact ⟨Int.le_refl _, fun _ => rfl⟩
    · unfold sCounts
      rw [if_pos hj, SS.job_put' h.len hj hj, if_pos rfl]; rfl
  · rename_i hj
    refine ⟨h, fun job _ => SKeep.refl _ _, ?_⟩
    unfold sCounts
    rw [if_neg hj]
theorem SK.fence {s : SS} {R : Int} (h : SK s R) (t : Int) : SK (sFence s t) R ∧ ∀ job, SKeep s (sFence s t) job := ⟨⟨h.len, h.order, h.used, h.room⟩, fun _ => SKeep.refl _ _⟩
theorem SK.new {R : Int} (h : 0 ≤ R) : SK (SS.new R) R := by
  refine ⟨rfl, fun x hx => ?_, ?_, by show max 0 R = R; omega⟩
  · rw [List.eq_of_mem_replicate hx]; exact ⟨Int.le_refl _, fun q => by cases q⟩
  · have : usedP (SS.new R).js = 0 := s5k_used
    rw [this]; exact h
theorem sWrites (s : SS) (j e : Int) : (sCommit s j e).2.writes = s.writes ∧ (sEnd s j).writes = s.writes := by
  constructor
  · unfold sCommit; (repeat' split) <;> rfl
  · unfold sEnd; split <;> rfl
theorem getOk (s : SS) (job : Int) (h : 0 ≤ sCounts s job) : (sGet s job (sCounts s job)).isSome = decide (0 < sCounts s job) := by
  rw [sGet_counts]
  by_cases h1 : jobOk job
  · by_cases h2 : 1 ≤ sCounts s job
    · rw [if_pos ⟨h1, h2⟩, decide_eq_true (by omega)]; rfl
    · rw [if_neg (fun q => h2 q.2), decide_eq_false (by omega)]; rfl
  · have : sCounts s job = 0 := by unfold sCounts; rw [if_neg h1]
    rw [if_neg (fun q => h1 q.1), this]; rfl
theorem SK.pos {s : SS} {R : Int} (h : SK s R) (job : Int) : 0 ≤ sCounts s job := by
  unfold sCounts
  split
  · rename_i hj; exact (h.order _ (SS.job_mem h.len hj)).1
  · exact Int.le_refl _
set_option maxRecDepth 10000 in
set_option maxHeartbeats 6400000 in
theorem storeKeeps_law (room job : Int) (a : Option Addr) (L : List TAct) (n cap : Nat) (w : World) (hn : L.length = n) (hm : n ≤ maxLen) (hA : AtG eTA w a L) (hok : ∀ x ∈ L, x.Ok w) :
    Calls Try.prog 7 #[.int .i64 room, .int .i64 job, .slice a n cap] w fun e w' => e = .returned (.bool true) ∧ Below w.heap.size w w' := by
  have HN := hid hn
  have HA := hid hA
  have HOk := hid hok
  have HM := hid hm
  have S0 := St.start w
  clear hn hA hok hm
  go_enter Try.func7, Try.ntmps7
  go_wp2_with fail
  refine (alive11_any _).mono ?_
  rintro e w1 ⟨rfl, hb1⟩
  have S1 := S0.grow hb1
  clear hb1 S0
  go_wp2_with fail
  refine (few11_any a L n cap _ HN.out HM.out (HA.out.all eTAok S1.fin)).mono ?_
  rintro e w1 ⟨rfl, rfl⟩
  by_cases hf : few11 L = true
  case neg =>
    have hf' : few11 L = false := by simpa using hf
    rw [hf']
    go_wp2
    go_ret
    exact ⟨rfl, S1.fin⟩
  rw [hf]
  have hf2 := hf
  unfold few11 at hf2
  rw [Bool.and_eq_true, decide_eq_true_iff, List.all_eq_true, HN.out] at hf2
  have hn60 := hf2.1
  have HF2 := hid hf2.2
  clear hf hf2
  by_cases hr : room < 0
  · have g0 : decide (room < 0) = true := decide_eq_true hr
    clear hr
    go_wp2
    go_ret
    exact ⟨rfl, S1.fin⟩
  have g0 : decide (room < 0) = false := decide_eq_false hr
  have hK0 := hid (SK.new (R := room) (by omega))
  clear hr
  go_wp2_with fail
  refine (stNew_any S1 room).mono ?_
  rintro e w2 ⟨rfl, S2⟩
  have S2' : St w w2 [storeT w1.heap.size (SS.new room)] := S2
  clear S2 S1
  go_wp2_with fail
  go_loopw [8] (fun i wr => ∃ (k : Nat) (s : SS), k ≤ n ∧ i = .int .i64 k ∧ SK s room ∧ s.writes ≤ k ∧ St w wr [storeT w1.heap.size s]) (fun i _ => n - (intOf i).toNat)
  case atStart => exact ⟨0, SS.new room, Nat.zero_le _, rfl, hK0.out, Nat.le_refl _, S2'⟩
  case round =>
    obtain ⟨k, s, hk, rfl, hK, hW, Sk⟩ := hrel
    clear S2'
    have HK := hid hK
    clear hK
    by_cases hlt : k < n
    case neg =>
      have g1 : decide ((k : Int) < (n : Int)) = false := decide_eq_false (by omega)
      have g1n : decide (k < n) = false := decide_eq_false (by omega)
      clear hlt
      go_wp2
      go_ret
      exact ⟨rfl, Sk.fin⟩
    have g1 : decide ((k : Int) < (n : Int)) = true := decide_eq_true (by omega)
    have g1n : decide (k < n) = true := decide_eq_true (by omega)
    have hkl : k < L.length := by rw [HN.out]; exact hlt
    go_wp2_with fail
    refine (stCounts_any Sk 0 rfl job).mono ?_
    rintro e w5 ⟨rfl, rfl⟩
    obtain ⟨E0, hE0⟩ : ∃ E0, sCounts s job = E0 := ⟨_, rfl⟩
    obtain ⟨O, hO⟩ : ∃ O, sGet s job E0 = O := ⟨_, rfl⟩
    obtain ⟨B, hB⟩ : ∃ B, O.isSome = B := ⟨_, rfl⟩
    obtain ⟨D, hD⟩ : ∃ D, (O.getD []).length = D := ⟨_, rfl⟩
    have gB : decide (0 < E0) = B := by rw [← hB, ← hO, ← hE0, getOk s job (HK.out.pos job)]
    have gBB : (B != B) = false := by simp
    rw [hE0]
    have HE0 := hid hE0
    have HO := hid hO
    have HB := hid hB
    have HD := hid hD
    have hD100 : D ≤ 100 := by
      rw [← hD, ← hO]
      have hsm := (Sk.storeOk 0 rfl).small
      unfold sGet
      (repeat' split)
      · simp
      · rename_i h1 _; simp only [not_or, Decidable.not_not] at h1; exact (hsm _ (SS.job_mem HK.out.len h1.1)).1
      · rename_i h1 _ _; simp only [not_or, Decidable.not_not] at h1; exact (hsm _ (SS.job_mem HK.out.len h1.1)).2
      · simp
    clear hE0 hO hB hD
    go_wp2_with fail
    refine (stGet_any Sk 0 rfl job E0).mono ?_
    rintro e w6 ⟨a6, c6, rfl, ho6, hb6⟩
    rw [HO.out, HD.out] at ho6
    rw [HO.out, HD.out, HB.out]
    have S6 : St w w6 [storeT w1.heap.size s, bytesT (.slice a6 D c6) (O.getD [])] := Sk.bytes ho6 hb6
    clear ho6 hb6 Sk
    have hAk : AtG eTA w6 a L := HA.out.all eTAok S6.fin
    have i0 := fun wx => idxTA a n cap (fun h => hAk.ok (by omega)) k hlt wx
    obtain ⟨y0, y1, y2, y3, y4⟩ := hAk.tAt hkl
    have HX := hid (HOk.out _ (List.getElem_mem hkl))
    have hx2 := HF2.out _ (List.getElem_mem hkl)
    rw [decide_eq_true_iff] at hx2
    generalize L[k] = x at *
    generalize adr a (k * 5) = A at *
    have S7 : St w (w6.alloc (.cells #[.int .i64 x.kind, .int .i64 x.term, .int .i64 x.job, .int .i64 x.ep, .slice x.a x.n x.c] 39)) [storeT w1.heap.size s, bytesT (.slice a6 D c6) (O.getD []), cellsT w6.heap.size 39 x.cs] := newAtG S6 _ _ _ rfl
    clear S6 hAk
    by_cases hk0 : x.kind = 0
    · have k1 : (x.kind == 0) = true := by simpa using hk0
      have kk2 : (x.kind == 2) = false := by simp; omega
      clear hk0
      go_wp2_with fail
      refine (stStage_any S7 0 rfl (by omega) x.term x.job x.ep x.a x.b x.n x.c HX.out.len (by omega) HX.out.nil (by exact S7.old HX.out.isAt)).mono ?_
      rintro e w8 ⟨rfl, S8⟩
      obtain ⟨s9, hs9⟩ : ∃ s9, (sStage s x.term x.job x.ep x.b).2 = s9 := ⟨_, rfl⟩
      have hK9 := HK.out.stage x.term x.job x.ep x.b
      rw [hs9] at S8 hK9
      have HWk9 : Hid (s9.writes ≤ k + 1) := by rw [Hid, ← hs9]; have := (sStage_term s x.term x.job x.ep x.b).2.1; omega
      have S9 : St w w8 [storeT w1.heap.size s9, bytesT (.slice a6 D c6) (O.getD []), cellsT w6.heap.size 39 x.cs] := S8
      have HK9 := hid hK9.1
      have hkeep := hK9.2 job
      clear S8 S7 hs9 hK9 y0 y1 y2 y3 y4 hx2
      go_wp2_with fail
      have hU9 : (usedP s9.js : Int) ≤ room := HK9.out.used
      obtain ⟨U, hU⟩ : ∃ U, usedP s9.js = U := ⟨_, rfl⟩
      rw [hU] at hU9
      have HU := hid hU
      have u1 : decide (room < (U : Int)) = false := decide_eq_false (by omega)
      have u2 : decide ((U : Int) < 0) = false := decide_eq_false (by omega)
      have HK2 := hid hkeep
      clear hU hkeep hU9
      refine (stUsed_any S9 0 rfl).mono ?_
      rintro e wa ⟨rfl, hba⟩
      rw [HU.out]
      have SA := S9.grow hba
      clear hba S9
      go_wp2_with fail
      refine (stUsed_any SA 0 rfl).mono ?_
      rintro e wb ⟨rfl, hbb⟩
      rw [HU.out]
      have SB := SA.grow hbb
      clear hbb SA
      go_wp2_with fail
      refine (stCounts_any SB 0 rfl job).mono ?_
      rintro e wc ⟨rfl, rfl⟩
      obtain ⟨y0, y1, y2, y3, y4⟩ := SB.tact 2 rfl
      obtain ⟨F9, hF9⟩ : ∃ F9, sCounts s9 job = F9 := ⟨_, rfl⟩
      have hk1 := HK2.out
      unfold SKeep at hk1
      rw [hF9, HE0.out, HO.out] at hk1
      rw [hF9]
      have HF9 := hid hF9
      clear hF9
      have v1 : decide (F9 < E0) = false := decide_eq_false (by omega)
      by_cases hfe : F9 = E0
      · have v2 : (F9 == E0) = true := by simpa using hfe
        have hget := hid (hk1.2 hfe)
        clear hk1 hfe
        go_wp2_with fail
        refine (stGet_any SB 0 rfl job E0).mono ?_
        rintro e wd ⟨ad, cd, rfl, hod, hbd⟩
        rw [hget.out] at hod ⊢
        rw [HB.out, HD.out]
        rw [HD.out] at hod
        have SD := SB.bytes hod hbd
        clear hod hbd
        go_wp2_with fail
        refine (hcmp SD true _ _ (O.getD []) (O.getD []) _ _ _ _ (by simp) HD.out HD.out (by unfold maxLen; omega) (by unfold maxLen; omega) (by exact SD.at 1 rfl) (by exact SD.at 3 rfl)).mono ?_
        rintro e we ⟨rfl, SE, -⟩
        go_wp2
        go_roundw
        case rel => exact ⟨k + 1, s9, by omega, by go_num, HK9.out, HWk9.out, SE.take 1⟩
        case measure => simp [intOf]; omega
      · have v2 : (F9 == E0) = false := by simpa using hfe
        clear hk1 hfe
        go_wp2_with fail
        refine (stGet_any SB 0 rfl job E0).mono ?_
        rintro e wd ⟨ad, cd, rfl, hod, hbd⟩
        have SD := SB.grow hbd
        clear hod hbd
        go_wp2
        go_roundw
        case rel => exact ⟨k + 1, s9, by omega, by go_num, HK9.out, HWk9.out, SD.take 1⟩
        case measure => simp [intOf]; omega
    have k1 : (x.kind == 0) = false := by simpa using hk0
    by_cases hk1 : x.kind = 1
    · have k2 : (x.kind == 1) = true := by simpa using hk1
      have kk2 : (x.kind == 2) = false := by simp; omega
      clear hk1
      go_wp2_with fail
      refine (stCommit_any S7 0 rfl x.job x.ep).mono ?_
      rintro e w8 ⟨rfl, S8⟩
      obtain ⟨s9, hs9⟩ : ∃ s9, (sCommit s x.job x.ep).2 = s9 := ⟨_, rfl⟩
      have hK9 := HK.out.commit x.job x.ep
      rw [hs9] at S8 hK9
      have HWk9 : Hid (s9.writes ≤ k + 1) := by rw [Hid, ← hs9]; rw [(sWrites s x.job x.ep).1]; omega
      have S9 : St w w8 [storeT w1.heap.size s9, bytesT (.slice a6 D c6) (O.getD []), cellsT w6.heap.size 39 x.cs] := S8
      have HK9 := hid hK9.1
      have hkeep := hK9.2 job
      clear S8 S7 hs9 hK9 y0 y1 y2 y3 y4 hx2
      go_wp2_with fail
      have hU9 : (usedP s9.js : Int) ≤ room := HK9.out.used
      obtain ⟨U, hU⟩ : ∃ U, usedP s9.js = U := ⟨_, rfl⟩
      rw [hU] at hU9
      have HU := hid hU
      have u1 : decide (room < (U : Int)) = false := decide_eq_false (by omega)
      have u2 : decide ((U : Int) < 0) = false := decide_eq_false (by omega)
      have HK2 := hid hkeep
      clear hU hkeep hU9
      refine (stUsed_any S9 0 rfl).mono ?_
      rintro e wa ⟨rfl, hba⟩
      rw [HU.out]
      have SA := S9.grow hba
      clear hba S9
      go_wp2_with fail
      refine (stUsed_any SA 0 rfl).mono ?_
      rintro e wb ⟨rfl, hbb⟩
      rw [HU.out]
      have SB := SA.grow hbb
      clear hbb SA
      go_wp2_with fail
      refine (stCounts_any SB 0 rfl job).mono ?_
      rintro e wc ⟨rfl, rfl⟩
      obtain ⟨y0, y1, y2, y3, y4⟩ := SB.tact 2 rfl
      obtain ⟨F9, hF9⟩ : ∃ F9, sCounts s9 job = F9 := ⟨_, rfl⟩
      have hk1 := HK2.out
      unfold SKeep at hk1
      rw [hF9, HE0.out, HO.out] at hk1
      rw [hF9]
      have HF9 := hid hF9
      clear hF9
      have v1 : decide (F9 < E0) = false := decide_eq_false (by omega)
      by_cases hfe : F9 = E0
      · have v2 : (F9 == E0) = true := by simpa using hfe
        have hget := hid (hk1.2 hfe)
        clear hk1 hfe
        go_wp2_with fail
        refine (stGet_any SB 0 rfl job E0).mono ?_
        rintro e wd ⟨ad, cd, rfl, hod, hbd⟩
        rw [hget.out] at hod ⊢
        rw [HB.out, HD.out]
        rw [HD.out] at hod
        have SD := SB.bytes hod hbd
        clear hod hbd
        go_wp2_with fail
        refine (hcmp SD true _ _ (O.getD []) (O.getD []) _ _ _ _ (by simp) HD.out HD.out (by unfold maxLen; omega) (by unfold maxLen; omega) (by exact SD.at 1 rfl) (by exact SD.at 3 rfl)).mono ?_
        rintro e we ⟨rfl, SE, -⟩
        go_wp2
        go_roundw
        case rel => exact ⟨k + 1, s9, by omega, by go_num, HK9.out, HWk9.out, SE.take 1⟩
        case measure => simp [intOf]; omega
      · have v2 : (F9 == E0) = false := by simpa using hfe
        clear hk1 hfe
        go_wp2_with fail
        refine (stGet_any SB 0 rfl job E0).mono ?_
        rintro e wd ⟨ad, cd, rfl, hod, hbd⟩
        have SD := SB.grow hbd
        clear hod hbd
        go_wp2
        go_roundw
        case rel => exact ⟨k + 1, s9, by omega, by go_num, HK9.out, HWk9.out, SD.take 1⟩
        case measure => simp [intOf]; omega
    have k2 : (x.kind == 1) = false := by simpa using hk1
    by_cases hk2 : x.kind = 2
    · have k3 : (x.kind == 2) = true := by simpa using hk2
      clear hk2
      go_wp2_with fail
      refine (stEnd_any S7 0 rfl x.job).mono ?_
      rintro e w8 ⟨rfl, S8⟩
      obtain ⟨s9, hs9⟩ : ∃ s9, sEnd s x.job = s9 := ⟨_, rfl⟩
      have hK9 := HK.out.end_ x.job
      rw [hs9] at S8 hK9
      have HWk9 : Hid (s9.writes ≤ k + 1) := by rw [Hid, ← hs9]; rw [(sWrites s x.job 0).2]; omega
      have S9 : St w w8 [storeT w1.heap.size s9, bytesT (.slice a6 D c6) (O.getD []), cellsT w6.heap.size 39 x.cs] := S8
      have HK9 := hid hK9.1
      have hko : ¬ x.job = job → SKeep s s9 job := fun h => hK9.2.1 job (fun q => h q.symm)
      have hkz : x.job = job → sCounts s9 job = 0 := fun h => h ▸ hK9.2.2
      clear S8 S7 hs9 hK9 y0 y1 y2 y3 y4 hx2
      go_wp2_with fail
      by_cases hjb : x.job = job
      · have j1 : (x.job == job) = true := by simpa using hjb
        have hkeep := hkz hjb
        clear hjb hkz hko
        have hU9 : (usedP s9.js : Int) ≤ room := HK9.out.used
        obtain ⟨U, hU⟩ : ∃ U, usedP s9.js = U := ⟨_, rfl⟩
        rw [hU] at hU9
        have HU := hid hU
        have u1 : decide (room < (U : Int)) = false := decide_eq_false (by omega)
        have u2 : decide ((U : Int) < 0) = false := decide_eq_false (by omega)
        have HK2 := hid hkeep
        clear hU hkeep hU9
        refine (stUsed_any S9 0 rfl).mono ?_
        rintro e wa ⟨rfl, hba⟩
        rw [HU.out]
        have SA := S9.grow hba
        clear hba S9
        go_wp2_with fail
        refine (stUsed_any SA 0 rfl).mono ?_
        rintro e wb ⟨rfl, hbb⟩
        rw [HU.out]
        have SB := SA.grow hbb
        clear hbb SA
        go_wp2_with fail
        refine (stCounts_any SB 0 rfl job).mono ?_
        rintro e wc ⟨rfl, rfl⟩
        obtain ⟨y0, y1, y2, y3, y4⟩ := SB.tact 2 rfl
        rw [HK2.out]
        go_wp2
        go_roundw
        case rel => exact ⟨k + 1, s9, by omega, by go_num, HK9.out, HWk9.out, SB.take 1⟩
        case measure => simp [intOf]; omega
      · have j1 : (x.job == job) = false := by simpa using hjb
        have hkeep := hko hjb
        clear hjb hkz hko
        have hU9 : (usedP s9.js : Int) ≤ room := HK9.out.used
        obtain ⟨U, hU⟩ : ∃ U, usedP s9.js = U := ⟨_, rfl⟩
        rw [hU] at hU9
        have HU := hid hU
        have u1 : decide (room < (U : Int)) = false := decide_eq_false (by omega)
        have u2 : decide ((U : Int) < 0) = false := decide_eq_false (by omega)
        have HK2 := hid hkeep
        clear hU hkeep hU9
        refine (stUsed_any S9 0 rfl).mono ?_
        rintro e wa ⟨rfl, hba⟩
        rw [HU.out]
        have SA := S9.grow hba
        clear hba S9
        go_wp2_with fail
        refine (stUsed_any SA 0 rfl).mono ?_
        rintro e wb ⟨rfl, hbb⟩
        rw [HU.out]
        have SB := SA.grow hbb
        clear hbb SA
        go_wp2_with fail
        refine (stCounts_any SB 0 rfl job).mono ?_
        rintro e wc ⟨rfl, rfl⟩
        obtain ⟨y0, y1, y2, y3, y4⟩ := SB.tact 2 rfl
        obtain ⟨F9, hF9⟩ : ∃ F9, sCounts s9 job = F9 := ⟨_, rfl⟩
        have hk1 := HK2.out
        unfold SKeep at hk1
        rw [hF9, HE0.out, HO.out] at hk1
        rw [hF9]
        have HF9 := hid hF9
        clear hF9
        have v1 : decide (F9 < E0) = false := decide_eq_false (by omega)
        by_cases hfe : F9 = E0
        · have v2 : (F9 == E0) = true := by simpa using hfe
          have hget := hid (hk1.2 hfe)
          clear hk1 hfe
          go_wp2_with fail
          refine (stGet_any SB 0 rfl job E0).mono ?_
          rintro e wd ⟨ad, cd, rfl, hod, hbd⟩
          rw [hget.out] at hod ⊢
          rw [HB.out, HD.out]
          rw [HD.out] at hod
          have SD := SB.bytes hod hbd
          clear hod hbd
          go_wp2_with fail
          refine (hcmp SD true _ _ (O.getD []) (O.getD []) _ _ _ _ (by simp) HD.out HD.out (by unfold maxLen; omega) (by unfold maxLen; omega) (by exact SD.at 1 rfl) (by exact SD.at 3 rfl)).mono ?_
          rintro e we ⟨rfl, SE, -⟩
          go_wp2
          go_roundw
          case rel => exact ⟨k + 1, s9, by omega, by go_num, HK9.out, HWk9.out, SE.take 1⟩
          case measure => simp [intOf]; omega
        · have v2 : (F9 == E0) = false := by simpa using hfe
          clear hk1 hfe
          go_wp2_with fail
          refine (stGet_any SB 0 rfl job E0).mono ?_
          rintro e wd ⟨ad, cd, rfl, hod, hbd⟩
          have SD := SB.grow hbd
          clear hod hbd
          go_wp2
          go_roundw
          case rel => exact ⟨k + 1, s9, by omega, by go_num, HK9.out, HWk9.out, SD.take 1⟩
          case measure => simp [intOf]; omega
    have k3 : (x.kind == 2) = false := by simpa using hk2
    by_cases hk3 : x.kind = 3
    · have k4 : (x.kind == 3) = true := by simpa using hk3
      have kk2 : (x.kind == 2) = false := by simp; omega
      clear hk3
      go_wp2_with fail
      refine (stFence_any S7 0 rfl x.term).mono ?_
      rintro e w8 ⟨rfl, S8⟩
      obtain ⟨s9, hs9⟩ : ∃ s9, sFence s x.term = s9 := ⟨_, rfl⟩
      have hK9 := HK.out.fence x.term
      rw [hs9] at S8 hK9
      have HWk9 : Hid (s9.writes ≤ k + 1) := by rw [Hid, ← hs9]; show s.writes ≤ k + 1; omega
      have S9 : St w w8 [storeT w1.heap.size s9, bytesT (.slice a6 D c6) (O.getD []), cellsT w6.heap.size 39 x.cs] := S8
      have HK9 := hid hK9.1
      have hkeep := hK9.2 job
      clear S8 S7 hs9 hK9 y0 y1 y2 y3 y4 hx2
      go_wp2_with fail
      have hU9 : (usedP s9.js : Int) ≤ room := HK9.out.used
      obtain ⟨U, hU⟩ : ∃ U, usedP s9.js = U := ⟨_, rfl⟩
      rw [hU] at hU9
      have HU := hid hU
      have u1 : decide (room < (U : Int)) = false := decide_eq_false (by omega)
      have u2 : decide ((U : Int) < 0) = false := decide_eq_false (by omega)
      have HK2 := hid hkeep
      clear hU hkeep hU9
      refine (stUsed_any S9 0 rfl).mono ?_
      rintro e wa ⟨rfl, hba⟩
      rw [HU.out]
      have SA := S9.grow hba
      clear hba S9
      go_wp2_with fail
      refine (stUsed_any SA 0 rfl).mono ?_
      rintro e wb ⟨rfl, hbb⟩
      rw [HU.out]
      have SB := SA.grow hbb
      clear hbb SA
      go_wp2_with fail
      refine (stCounts_any SB 0 rfl job).mono ?_
      rintro e wc ⟨rfl, rfl⟩
      obtain ⟨y0, y1, y2, y3, y4⟩ := SB.tact 2 rfl
      obtain ⟨F9, hF9⟩ : ∃ F9, sCounts s9 job = F9 := ⟨_, rfl⟩
      have hk1 := HK2.out
      unfold SKeep at hk1
      rw [hF9, HE0.out, HO.out] at hk1
      rw [hF9]
      have HF9 := hid hF9
      clear hF9
      have v1 : decide (F9 < E0) = false := decide_eq_false (by omega)
      by_cases hfe : F9 = E0
      · have v2 : (F9 == E0) = true := by simpa using hfe
        have hget := hid (hk1.2 hfe)
        clear hk1 hfe
        go_wp2_with fail
        refine (stGet_any SB 0 rfl job E0).mono ?_
        rintro e wd ⟨ad, cd, rfl, hod, hbd⟩
        rw [hget.out] at hod ⊢
        rw [HB.out, HD.out]
        rw [HD.out] at hod
        have SD := SB.bytes hod hbd
        clear hod hbd
        go_wp2_with fail
        refine (hcmp SD true _ _ (O.getD []) (O.getD []) _ _ _ _ (by simp) HD.out HD.out (by unfold maxLen; omega) (by unfold maxLen; omega) (by exact SD.at 1 rfl) (by exact SD.at 3 rfl)).mono ?_
        rintro e we ⟨rfl, SE, -⟩
        go_wp2
        go_roundw
        case rel => exact ⟨k + 1, s9, by omega, by go_num, HK9.out, HWk9.out, SE.take 1⟩
        case measure => simp [intOf]; omega
      · have v2 : (F9 == E0) = false := by simpa using hfe
        clear hk1 hfe
        go_wp2_with fail
        refine (stGet_any SB 0 rfl job E0).mono ?_
        rintro e wd ⟨ad, cd, rfl, hod, hbd⟩
        have SD := SB.grow hbd
        clear hod hbd
        go_wp2
        go_roundw
        case rel => exact ⟨k + 1, s9, by omega, by go_num, HK9.out, HWk9.out, SD.take 1⟩
        case measure => simp [intOf]; omega
    have k4 : (x.kind == 3) = false := by simpa using hk3
    clear hk0 hk1 hk2 hk3
    obtain ⟨s9, hs9⟩ : ∃ s9, s = s9 := ⟨_, rfl⟩
    have hkeep : SKeep s s9 job := hs9 ▸ SKeep.refl s job
    have HK9 : Hid (SK s9 room) := hs9 ▸ HK
    have HWk9 : Hid (s9.writes ≤ k + 1) := by rw [Hid, ← hs9]; omega
    have S9 := S7
    rw [hs9] at S9
    go_wp2_with fail
    clear S7 hs9 y0 y1 y2 y3 y4 hx2
    have hU9 : (usedP s9.js : Int) ≤ room := HK9.out.used
    obtain ⟨U, hU⟩ : ∃ U, usedP s9.js = U := ⟨_, rfl⟩
    rw [hU] at hU9
    have HU := hid hU
    have u1 : decide (room < (U : Int)) = false := decide_eq_false (by omega)
    have u2 : decide ((U : Int) < 0) = false := decide_eq_false (by omega)
    have HK2 := hid hkeep
    clear hU hkeep hU9
    refine (stUsed_any S9 0 rfl).mono ?_
    rintro e wa ⟨rfl, hba⟩
    rw [HU.out]
    have SA := S9.grow hba
    clear hba S9
    go_wp2_with fail
    refine (stUsed_any SA 0 rfl).mono ?_
    rintro e wb ⟨rfl, hbb⟩
    rw [HU.out]
    have SB := SA.grow hbb
    clear hbb SA
    go_wp2_with fail
    refine (stCounts_any SB 0 rfl job).mono ?_
    rintro e wc ⟨rfl, rfl⟩
    obtain ⟨y0, y1, y2, y3, y4⟩ := SB.tact 2 rfl
    obtain ⟨F9, hF9⟩ : ∃ F9, sCounts s9 job = F9 := ⟨_, rfl⟩
    have hk1 := HK2.out
    unfold SKeep at hk1
    rw [hF9, HE0.out, HO.out] at hk1
    rw [hF9]
    have HF9 := hid hF9
    clear hF9
    have v1 : decide (F9 < E0) = false := decide_eq_false (by omega)
    by_cases hfe : F9 = E0
    · have v2 : (F9 == E0) = true := by simpa using hfe
      have hget := hid (hk1.2 hfe)
      clear hk1 hfe
      go_wp2_with fail
      refine (stGet_any SB 0 rfl job E0).mono ?_
      rintro e wd ⟨ad, cd, rfl, hod, hbd⟩
      rw [hget.out] at hod ⊢
      rw [HB.out, HD.out]
      rw [HD.out] at hod
      have SD := SB.bytes hod hbd
      clear hod hbd
      go_wp2_with fail
      refine (hcmp SD true _ _ (O.getD []) (O.getD []) _ _ _ _ (by simp) HD.out HD.out (by unfold maxLen; omega) (by unfold maxLen; omega) (by exact SD.at 1 rfl) (by exact SD.at 3 rfl)).mono ?_
      rintro e we ⟨rfl, SE, -⟩
      go_wp2
      go_roundw
      case rel => exact ⟨k + 1, s9, by omega, by go_num, HK9.out, HWk9.out, SE.take 1⟩
      case measure => simp [intOf]; omega
    · have v2 : (F9 == E0) = false := by simpa using hfe
      clear hk1 hfe
      go_wp2_with fail
      refine (stGet_any SB 0 rfl job E0).mono ?_
      rintro e wd ⟨ad, cd, rfl, hod, hbd⟩
      have SD := SB.grow hbd
      clear hod hbd
      go_wp2
      go_roundw
      case rel => exact ⟨k + 1, s9, by omega, by go_num, HK9.out, HWk9.out, SD.take 1⟩
      case measure => simp [intOf]; omega

end Go.Proofs.Ytiilhfmmclhflaa
