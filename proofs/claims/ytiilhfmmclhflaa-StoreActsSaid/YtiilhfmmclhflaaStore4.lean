/- Stores: Stage, New. -/
import Derived.Test.YtiilhfmmclhflaaStore3
namespace Go.Proofs.Ytiilhfmmclhflaa
set_option linter.unusedVariables false
set_option linter.unusedSimpArgs false
open Go.RowKit
section
variable {w0 w : World} {r : List Thing} {g : Nat} {s : SS}
theorem addCell_any {w : World} {g k : Nat} {x : Nat} (h : w.cell? ⟨g, k, none⟩ = some (.int .i64 x)) (hf : w.frozen? ⟨g, k, none⟩ = false) (hx : x < 9223372036854775807) :
    Calls Try.prog 46 #[.pointer (some ⟨g, k, none⟩), .int .i64 1] w fun e w' => e = .returned (.int .i64 ((x + 1 : Nat) : Int)) ∧ w' = w.setCell ⟨g, k, none⟩ (.int .i64 ((x + 1 : Nat) : Int)) := by
  have hl := run_call_add (P := Try.prog) Try.func60 (by kernel_rfl) (by kernel_rfl) (by kernel_rfl) .i64 (by kernel_rfl) (y := 1) (s := ((x + 1 : Nat) : Int)) h hf (by
    have : IntKind.i64.wrap ((x : Int) + 1) = ((x + 1 : Nat) : Int) := by rw [IntKind.wrap_i64]; omega
    simp [go_sem, this])
  go_enter Try.func46, Try.ntmps46
  go_wp2
  go_ret
  exact ⟨rfl, rfl⟩
theorem stC_setW (s : SS) (l : List Sh) (h : l.length = 25) (n : Nat) : (stC s l).set 102 (.int .i64 (n : Int)) = stC { s with writes := n } l := by
  unfold stC
  rw [show (102 : Nat) = 100 + 1 + 1 from rfl, List.set_cons_succ, List.set_cons_succ, List.set_append_right _ _ (by rw [shC_len]; omega), shC_len, h]
  rfl
theorem below_cell {B : Nat} {w w' : World} (h : Below B w w') {g : Nat} (hg : g < B) (i : Nat) : w'.cell? ⟨g, i, none⟩ = w.cell? ⟨g, i, none⟩ := by
  simp only [World.cell?, h.block g hg]
theorem IsStore.stay {w w' : World} {B : Nat} {F : Nat → Prop} {g : Nat} {s : SS} {l : List Sh} (h : IsStore w B F g s l) (hb : Below w.heap.size w w') : IsStore w' B F g s l :=
  have ht : Touch (fun _ => False) w w' := Touch.ofBelow hb
  ⟨h.base, by rw [ht.block g (Array.getElem?_eq_some_iff.1 h.row).1 (fun h => h)]; exact h.row, h.foot, h.len, h.ps, fun x hx => ⟨(h.data x hx).1.touch ht (fun b _ _ h => h), (h.data x hx).2.touch ht (fun b _ _ h => h)⟩, h.small, fun b hb => ⟨(h.low b hb).1, Nat.lt_of_lt_of_le (h.low b hb).2 ht.size⟩⟩
theorem BS.Lie.mono {w : World} {F F' : Nat → Prop} {g : Nat} {x : BS} (h : x.Lie w F g) (hF : ∀ b, F b → F' b) : x.Lie w F' g := ⟨h.hd, h.at_, fun y hy => ⟨hF _ (h.own y hy).1, (h.own y hy).2⟩⟩
theorem IsStore.mono {w : World} {B : Nat} {F F' : Nat → Prop} {g : Nat} {s : SS} {l : List Sh} (h : IsStore w B F g s l) (hF : ∀ b, F b → F' b) (hl : ∀ b, F' b → B ≤ b ∧ b < w.heap.size) : IsStore w B F' g s l :=
  ⟨h.base, h.row, hF _ h.foot, h.len, h.ps, fun x hx => ⟨(h.data x hx).1.mono hF, (h.data x hx).2.mono hF⟩, h.small, hl⟩
set_option maxRecDepth 10000 in
set_option maxHeartbeats 3200000 in
theorem stStage_any (S : St w0 w r) (k : Nat) (hk : r[k]? = some (storeT g s)) (hw : s.writes ≤ 1000000) (term jb ep : Int) (a : Option Addr) (b : List UInt8) (n cap : Nat) (hn : b.length = n) (hm : n ≤ 140737488355328) (hnil : a = none → cap = 0) (hA : At w a b) :
    Calls Try.prog 15 #[.pointer (some ⟨g, 0, none⟩), .int .i64 term, .int .i64 jb, .int .i64 ep, .slice a n cap] w fun e w' => e = .returned (.int .i64 (sStage s term jb ep b).1) ∧ St w0 w' (r.set k (storeT g (sStage s term jb ep b).2)) := by
  have HN := hid hn
  have HNil := hid hnil
  obtain ⟨F, ⟨l, I⟩, hu⟩ := S.step k hk
  have hS : St w0 w (r.set k (storeT g s)) := by rw [set_same hk]; exact S
  have hgl : g < w.drew.heap.size := (I.low g I.foot).2
  have ct : w.cell? ⟨g, 1, none⟩ = some (.int .i64 s.term) := I.cell 1
  have cr : w.cell? ⟨g, 0, none⟩ = some (.int .i64 s.room) := I.cell 0
  by_cases ht : term < s.term
  · have e2 : Hid (sStage s term jb ep b = (6, s)) := by rw [Hid, sStage, if_pos ht]
    rw [e2.out]
    have g0 : decide (term < s.term) = true := decide_eq_true ht
    obtain ⟨v, hv, hvp⟩ : ∃ v, jobV g jb = .pointer v ∧ True := by unfold jobV; split <;> exact ⟨_, rfl, trivial⟩
    have e : Hid (jobV g jb = .pointer v) := hv
    clear hn hnil I hu ht hv hvp
    go_enter Try.func15, Try.ntmps15
    go_wp2_with fail
    refine (stJob_any g jb _).mono ?_
    rintro e' w1 ⟨rfl, rfl⟩
    rw [e.out]
    go_wp2
    go_ret
    exact ⟨rfl, hS⟩
  have g0 : decide (term < s.term) = false := decide_eq_false ht
  by_cases h : jobOk jb
  case neg =>
    have e : Hid (jobV g jb = .pointer none) := by rw [Hid, jobV, if_neg h]
    have e2 : Hid (sStage s term jb ep b = (1, s)) := by rw [Hid, sStage, if_neg ht, if_pos (.inl h)]
    rw [e2.out]
    clear hn hnil I hu ht h
    go_enter Try.func15, Try.ntmps15
    go_wp2_with fail
    refine (stJob_any g jb _).mono ?_
    rintro e' w1 ⟨rfl, rfl⟩
    rw [e.out]
    go_wp2
    go_ret
    exact ⟨rfl, hS⟩
  obtain ⟨N, rfl, h1, h2⟩ := jobOk_nat h
  obtain ⟨hkl, hj⟩ := I.job h2
  obtain ⟨c, hc⟩ : ∃ c, 2 + N * 4 = c := ⟨_, rfl⟩
  obtain ⟨x0, x1, x2, x3⟩ := I.sh hkl c hc
  have e : Hid (jobV g N = .pointer (some ⟨g, c, none⟩)) := by rw [Hid, jobV, if_pos h, ← hc]; rfl
  have hE : sStage s term N ep b = if ep < 1 ∨ 1000000 < ep ∨ n = 0 ∨ 100 < n then (1, s) else if ep ≤ l[N].e1 ∨ ep < l[N].e2 then (6, s) else if ep = l[N].e2 then (0, s) else
      if s.room < (usedP s.js : Int) - l[N].d2.n + n then (3, s) else (0, { s.put N ⟨l[N].e1, l[N].d1.l, ep, b⟩ with writes := s.writes + 1 }) := by
    unfold sStage
    rw [if_neg ht, hj, hn]
    simp only [h, not_true_eq_false, false_or]
    have : (l[N].ps.sd.length : Int) = (l[N].d2.n : Int) := by rw [show l[N].ps.sd = l[N].d2.l from rfl, (I.data _ (List.getElem_mem hkl)).2.hd.len]
    rw [this]
    rfl
  by_cases q : ep < 1
  · have e2 : Hid (sStage s term N ep b = (1, s)) := by rw [Hid, hE, if_pos (.inl q)]
    rw [e2.out]
    have g1 : decide (ep < 1) = true := decide_eq_true (by omega)
    clear hn hnil I hu ht h hE hj q hc
    go_enter Try.func15, Try.ntmps15
    go_wp2_with fail
    refine (stJob_any g N _).mono ?_
    rintro e' w1 ⟨rfl, rfl⟩
    rw [e.out]
    go_wp2
    go_ret
    exact ⟨rfl, hS⟩
  have g1 : decide (ep < 1) = false := decide_eq_false (by omega)
  have q0 := q
  clear q
  by_cases q : 1000000 < ep
  · have e2 : Hid (sStage s term N ep b = (1, s)) := by rw [Hid, hE, if_pos (.inr (.inl q))]
    rw [e2.out]
    have g2 : decide (1000000 < ep) = true := decide_eq_true (by omega)
    clear hn hnil I hu ht h hE hj q hc
    go_enter Try.func15, Try.ntmps15
    go_wp2_with fail
    refine (stJob_any g N _).mono ?_
    rintro e' w1 ⟨rfl, rfl⟩
    rw [e.out]
    go_wp2
    go_ret
    exact ⟨rfl, hS⟩
  have g2 : decide (1000000 < ep) = false := decide_eq_false (by omega)
  have q1 := q
  clear q
  by_cases q : n = 0
  · have e2 : Hid (sStage s term N ep b = (1, s)) := by rw [Hid, hE, if_pos (.inr (.inr (.inl q)))]
    rw [e2.out]
    have g3 : ((n : Int) == 0) = true := by simp; omega
    clear hn hnil I hu ht h hE hj q hc
    go_enter Try.func15, Try.ntmps15
    go_wp2_with fail
    refine (stJob_any g N _).mono ?_
    rintro e' w1 ⟨rfl, rfl⟩
    rw [e.out]
    go_wp2
    go_ret
    exact ⟨rfl, hS⟩
  have g3 : ((n : Int) == 0) = false := by simp; omega
  have q2 := q
  clear q
  by_cases q : 100 < n
  · have e2 : Hid (sStage s term N ep b = (1, s)) := by rw [Hid, hE, if_pos (.inr (.inr (.inr q)))]
    rw [e2.out]
    have g4 : decide ((100 : Int) < (n : Int)) = true := decide_eq_true (by omega)
    clear hn hnil I hu ht h hE hj q hc
    go_enter Try.func15, Try.ntmps15
    go_wp2_with fail
    refine (stJob_any g N _).mono ?_
    rintro e' w1 ⟨rfl, rfl⟩
    rw [e.out]
    go_wp2
    go_ret
    exact ⟨rfl, hS⟩
  have g4 : decide ((100 : Int) < (n : Int)) = false := decide_eq_false (by omega)
  have q3 := q
  clear q
  rw [if_neg (by rintro (q | q | q | q); exact q0 q; exact q1 q; exact q2 q; exact q3 q)] at hE
  have hlast := I.len
  have f2 := I.frozen (c + 2)
  have f3 := I.frozen (c + 3)
  have hsm := I.small _ (List.getElem_mem hkl)
  have hus : usedP s.js ≤ 5000 := by
    have h1 := usedS_le I.small 25 (by rw [I.len]; omega)
    have h2 : usedS l 25 = usedP s.js := by
      rw [← I.ps]; unfold usedS usedP
      rw [List.take_of_length_le (by have := I.len; omega), List.map_map]
      congr 1
      refine List.map_congr_left fun x hx => ?_
      have h1 := (I.data x hx).1.hd.len
      have h2 := (I.data x hx).2.hd.len
      show x.d1.n + x.d2.n = x.d1.l.length + x.d2.l.length
      omega
    omega
  obtain ⟨x, hx⟩ : ∃ x, l[N] = x := ⟨_, rfl⟩
  rw [hx] at x0 x1 x2 x3 hE hsm
  have HX := hid hx
  clear hx
  by_cases q4 : ep ≤ x.e1
  · have e2 : Hid (sStage s term N ep b = (6, s)) := by rw [Hid, hE, if_pos (.inl q4)]
    rw [e2.out]
    have g5 : decide (ep ≤ x.e1) = true := decide_eq_true q4
    clear hn hnil I hu ht h hE hj q4 hc hus hsm
    go_enter Try.func15, Try.ntmps15
    go_wp2_with fail
    refine (stJob_any g N _).mono ?_
    rintro e' w1 ⟨rfl, rfl⟩
    rw [e.out]
    go_wp2
    go_ret
    exact ⟨rfl, hS⟩
  have g5 : decide (ep ≤ x.e1) = false := decide_eq_false q4
  by_cases q5 : ep < x.e2
  · have e2 : Hid (sStage s term N ep b = (6, s)) := by rw [Hid, hE, if_pos (.inr q5)]
    rw [e2.out]
    have g6 : decide (ep < x.e2) = true := decide_eq_true q5
    clear hn hnil I hu ht h hE hj q4 q5 hc hus hsm
    go_enter Try.func15, Try.ntmps15
    go_wp2_with fail
    refine (stJob_any g N _).mono ?_
    rintro e' w1 ⟨rfl, rfl⟩
    rw [e.out]
    go_wp2
    go_ret
    exact ⟨rfl, hS⟩
  have g6 : decide (ep < x.e2) = false := decide_eq_false q5
  rw [if_neg (by rintro (q | q); exact q4 q; exact q5 q)] at hE
  by_cases q6 : ep = x.e2
  · have e2 : Hid (sStage s term N ep b = (0, s)) := by rw [Hid, hE, if_pos q6]
    rw [e2.out]
    have g7 : (ep == x.e2) = true := by simpa using q6
    clear hn hnil I hu ht h hE hj q4 q5 q6 hc hus hsm
    go_enter Try.func15, Try.ntmps15
    go_wp2_with fail
    refine (stJob_any g N _).mono ?_
    rintro e' w1 ⟨rfl, rfl⟩
    rw [e.out]
    go_wp2
    go_ret
    exact ⟨rfl, hS⟩
  have g7 : (ep == x.e2) = false := by simpa using q6
  rw [if_neg q6] at hE
  obtain ⟨U, hU⟩ : ∃ U, usedP s.js = U := ⟨_, rfl⟩
  rw [hU] at hE hus
  have HU := hid hU
  clear hU q4 q5 q6
  have wr1 : IntKind.i64.wrap ((U : Int) - (x.d2.n : Int)) = (U : Int) - (x.d2.n : Int) := by rw [IntKind.wrap_i64]; omega
  have wr2 : IntKind.i64.wrap ((U : Int) - (x.d2.n : Int) + (n : Int)) = (U : Int) - (x.d2.n : Int) + (n : Int) := by rw [IntKind.wrap_i64]; omega
  by_cases q7 : s.room < (U : Int) - x.d2.n + n
  · have e2 : Hid (sStage s term N ep b = (3, s)) := by rw [Hid, hE, if_pos q7]
    rw [e2.out]
    have g8 : decide (s.room < (U : Int) - (x.d2.n : Int) + (n : Int)) = true := decide_eq_true q7
    clear hn hnil I hu ht h hE hj hc q7
    go_enter Try.func15, Try.ntmps15
    go_wp2_with fail
    refine (stJob_any g N _).mono ?_
    rintro e' w1 ⟨rfl, rfl⟩
    rw [e.out]
    go_wp2_with fail
    refine wp_region_held_drew (S := (fun w' => w'.cell? ⟨g, c + 3, none⟩ = some (.slice x.d2.a x.d2.n x.d2.c) ∧ w'.cell? ⟨g, 0, none⟩ = some (.int .i64 s.room))) (by kernel_rfl) (by exact ⟨x3, cr⟩) (fun hHeld => ?_)
    change wpAnyH _ _ _ _ _ 18 (Array.replicate 18 false) _ _
    refine wpAnyH_take (i := 0) (v := ?v1) (ops_at rfl) (by kernel_rfl) (by kernel_rfl) (by kernel_rfl) (fun _ _ _ h => h) (Or.inl ⟨by rfl, ?hy1⟩) (by assumption) ?rest1
    case hy1 => intro w' hSw; (try dsimp only at hSw); go_simp; try with_reducible rfl
    try simp only [Act.put, List.setIfInBounds_toArray, List.set_cons_zero, List.set_cons_succ]
    refine wpAnyH_take (i := 2) (v := ?v2) (ops_at rfl) (by kernel_rfl) (by kernel_rfl) (by kernel_rfl) (fun _ _ _ h => h) (Or.inl ⟨by rfl, ?hy2⟩) (by assumption) ?rest2
    case hy2 => intro w' hSw; (try dsimp only at hSw); go_simp; try with_reducible rfl
    try simp only [Act.put, List.setIfInBounds_toArray, List.set_cons_zero, List.set_cons_succ]
    refine wpAnyH_take (i := 3) (v := ?v3) (ops_at rfl) (by kernel_rfl) (by kernel_rfl) (by kernel_rfl) (fun _ _ _ h => h) (Or.inl ⟨by rfl, ?hy3⟩) (by assumption) ?rest3
    case hy3 => intro w' hSw; (try dsimp only at hSw); go_simp; try with_reducible rfl
    try simp only [Act.put, List.setIfInBounds_toArray, List.set_cons_zero, List.set_cons_succ]
    refine wpAnyH_take (i := 4) (v := ?v4) (ops_at rfl) (by kernel_rfl) (by kernel_rfl) (by kernel_rfl) (fun _ _ _ h => h) (Or.inl ⟨by rfl, ?hy4⟩) (by assumption) ?rest4
    case hy4 => intro w' hSw; (try dsimp only at hSw); go_simp; try with_reducible rfl
    try simp only [Act.put, List.setIfInBounds_toArray, List.set_cons_zero, List.set_cons_succ]
    refine wpAnyH_take (i := 5) (v := ?v5) (ops_at rfl) (by kernel_rfl) (by kernel_rfl) (by kernel_rfl) (fun _ _ _ h => h) (Or.inl ⟨by rfl, ?hy5⟩) (by assumption) ?rest5
    case hy5 => intro w' hSw; (try dsimp only at hSw); go_simp; try with_reducible rfl
    try simp only [Act.put, List.setIfInBounds_toArray, List.set_cons_zero, List.set_cons_succ]
    refine wpAnyH_take (i := 6) (v := ?v6) (ops_at rfl) (by kernel_rfl) (by kernel_rfl) (by kernel_rfl) (fun _ _ _ h => h) (Or.inl ⟨by rfl, ?hy6⟩) (by assumption) ?rest6
    case hy6 => intro w' hSw; (try dsimp only at hSw); go_simp; try with_reducible rfl
    try simp only [Act.put, List.setIfInBounds_toArray, List.set_cons_zero, List.set_cons_succ]
    refine wpAnyH_take (i := 7) (v := ?v7) (ops_at rfl) (by kernel_rfl) (by kernel_rfl) (by kernel_rfl) (fun _ _ _ h => h) (Or.inl ⟨by rfl, ?hy7⟩) (by assumption) ?rest7
    case hy7 => intro w' hSw; (try dsimp only at hSw); go_simp; try with_reducible rfl
    try simp only [Act.put, List.setIfInBounds_toArray, List.set_cons_zero, List.set_cons_succ]
    refine wpAnyH_take (i := 9) (v := ?v8) (ops_at rfl) (by kernel_rfl) (by kernel_rfl) (by kernel_rfl) (fun _ _ _ h => h) (Or.inl ⟨by rfl, ?hy8⟩) (by assumption) ?rest8
    case hy8 => intro w' hSw; (try dsimp only at hSw); go_simp; try with_reducible rfl
    try simp only [Act.put, List.setIfInBounds_toArray, List.set_cons_zero, List.set_cons_succ]
    refine wpAnyH_take (i := 10) (v := ?v9) (ops_at rfl) (by kernel_rfl) (by kernel_rfl) (by kernel_rfl) (fun _ _ _ h => h) (Or.inl ⟨by rfl, ?hy9⟩) (by assumption) ?rest9
    case hy9 => intro w' hSw; (try dsimp only at hSw); go_simp; try with_reducible rfl
    try simp only [Act.put, List.setIfInBounds_toArray, List.set_cons_zero, List.set_cons_succ]
    refine wpAnyH_take (i := 12) (v := ?v10) (ops_at rfl) (by kernel_rfl) (by kernel_rfl) (by kernel_rfl) (fun _ _ _ h => h) (Or.inl ⟨by rfl, ?hy10⟩) (by assumption) ?rest10
    case hy10 => intro w' hSw; (try dsimp only at hSw); go_simp; try with_reducible rfl
    try simp only [Act.put, List.setIfInBounds_toArray, List.set_cons_zero, List.set_cons_succ]
    refine wpAnyH_take (i := 13) (v := ?v11) (ops_at rfl) (by kernel_rfl) (by kernel_rfl) (by kernel_rfl) (fun _ _ _ h => h) (Or.inl ⟨by rfl, ?hy11⟩) (by assumption) ?rest11
    case hy11 => intro w' hSw; (try dsimp only at hSw); go_simp; try with_reducible rfl
    try simp only [Act.put, List.setIfInBounds_toArray, List.set_cons_zero, List.set_cons_succ]
    refine wpAnyH_take (i := 14) (v := ?v12) (ops_at rfl) (by kernel_rfl) (by kernel_rfl) (by kernel_rfl) (fun _ _ _ h => h) (Or.inl ⟨by rfl, ?hy12⟩) (by assumption) ?rest12
    case hy12 => intro w' hSw; (try dsimp only at hSw); go_simp; try with_reducible rfl
    try simp only [Act.put, List.setIfInBounds_toArray, List.set_cons_zero, List.set_cons_succ]
    refine wpAnyH_take (i := 15) (v := ?v13) (ops_at rfl) (by kernel_rfl) (by kernel_rfl) (by kernel_rfl) (fun _ _ _ h => h) (Or.inl ⟨by rfl, ?hy13⟩) (by assumption) ?rest13
    case hy13 => intro w' hSw; (try dsimp only at hSw); go_simp; try with_reducible rfl
    try simp only [Act.put, List.setIfInBounds_toArray, List.set_cons_zero, List.set_cons_succ]
    refine wpAnyH_ready (rs := [1]) (by kernel_rfl) (by simp) ?_
    refine AllReadyH.cons (ops_at rfl) (fun K hK => ?_) AllReadyH.nil
    go_simp
    refine (stUsed_any S.drew k hk).mono ?_
    rintro e' w2 ⟨rfl, hb2⟩
    rw [HU.out]
    have S2 := hS.drew.grow hb2
    refine hK.out _ _ (by exact ⟨(below_cell hb2 hgl _).trans x3, (below_cell hb2 hgl _).trans cr⟩) (fun hHeld => ?_)
    clear hK K
    try simp only [Act.put, List.setIfInBounds_toArray, List.set_cons_zero, List.set_cons_succ]
    refine wpAnyH_take (i := 8) (v := ?v15) (ops_at rfl) (by kernel_rfl) (by kernel_rfl) (by kernel_rfl) (fun _ _ _ h => h) (Or.inl ⟨by rfl, ?hy15⟩) (by assumption) ?rest15
    case hy15 => intro w' hSw; (try dsimp only at hSw); go_simp; try with_reducible rfl
    try simp only [Act.put, List.setIfInBounds_toArray, List.set_cons_zero, List.set_cons_succ]
    refine wpAnyH_take (i := 11) (v := ?v16) (ops_at rfl) (by kernel_rfl) (by kernel_rfl) (by kernel_rfl) (fun _ _ _ h => h) (Or.inl ⟨by rfl, ?hy16⟩) (by assumption) ?rest16
    case hy16 => intro w' hSw; (try dsimp only at hSw); go_simp; try with_reducible rfl
    try simp only [Act.put, List.setIfInBounds_toArray, List.set_cons_zero, List.set_cons_succ]
    refine wpAnyH_take (i := 16) (v := ?v17) (ops_at rfl) (by kernel_rfl) (by kernel_rfl) (by kernel_rfl) (fun _ _ _ h => h) (Or.inl ⟨by rfl, ?hy17⟩) (by assumption) ?rest17
    case hy17 => intro w' hSw; (try dsimp only at hSw); go_simp; try with_reducible rfl
    try simp only [Act.put, List.setIfInBounds_toArray, List.set_cons_zero, List.set_cons_succ]
    refine wpAnyH_take (i := 17) (v := ?v18) (ops_at rfl) (by kernel_rfl) (by kernel_rfl) (by kernel_rfl) (fun _ _ _ h => h) (Or.inl ⟨by rfl, ?hy18⟩) (by assumption) ?rest18
    case hy18 => intro w' hSw; (try dsimp only at hSw); go_simp; try with_reducible rfl
    try simp only [Act.put, List.setIfInBounds_toArray, List.set_cons_zero, List.set_cons_succ]
    refine wpAnyH_done (by kernel_rfl) ?_ _
    go_wp2
    go_ret
    exact ⟨rfl, S2⟩
  have g8 : decide (s.room < (U : Int) - (x.d2.n : Int) + (n : Int)) = false := decide_eq_false q7
  rw [if_neg q7] at hE
  have e2 := hid hE
  rw [e2.out]
  have HI := hid I
  have HU2 := hid hu
  have HC := hid hc
  clear hn hnil I hu ht h hE hj hc q7
  go_enter Try.func15, Try.ntmps15
  go_wp2_with fail
  refine (stJob_any g N _).mono ?_
  rintro e' w1 ⟨rfl, rfl⟩
  rw [e.out]
  go_wp2_with fail
  refine wp_region_held_drew (S := (fun w' => w'.cell? ⟨g, c + 3, none⟩ = some (.slice x.d2.a x.d2.n x.d2.c) ∧ w'.cell? ⟨g, 0, none⟩ = some (.int .i64 s.room))) (by kernel_rfl) (by exact ⟨x3, cr⟩) (fun hHeld => ?_)
  change wpAnyH _ _ _ _ _ 18 (Array.replicate 18 false) _ _
  refine wpAnyH_take (i := 0) (v := ?v19) (ops_at rfl) (by kernel_rfl) (by kernel_rfl) (by kernel_rfl) (fun _ _ _ h => h) (Or.inl ⟨by rfl, ?hy19⟩) (by assumption) ?rest19
  case hy19 => intro w' hSw; (try dsimp only at hSw); go_simp; try with_reducible rfl
  try simp only [Act.put, List.setIfInBounds_toArray, List.set_cons_zero, List.set_cons_succ]
  refine wpAnyH_take (i := 2) (v := ?v20) (ops_at rfl) (by kernel_rfl) (by kernel_rfl) (by kernel_rfl) (fun _ _ _ h => h) (Or.inl ⟨by rfl, ?hy20⟩) (by assumption) ?rest20
  case hy20 => intro w' hSw; (try dsimp only at hSw); go_simp; try with_reducible rfl
  try simp only [Act.put, List.setIfInBounds_toArray, List.set_cons_zero, List.set_cons_succ]
  refine wpAnyH_take (i := 3) (v := ?v21) (ops_at rfl) (by kernel_rfl) (by kernel_rfl) (by kernel_rfl) (fun _ _ _ h => h) (Or.inl ⟨by rfl, ?hy21⟩) (by assumption) ?rest21
  case hy21 => intro w' hSw; (try dsimp only at hSw); go_simp; try with_reducible rfl
  try simp only [Act.put, List.setIfInBounds_toArray, List.set_cons_zero, List.set_cons_succ]
  refine wpAnyH_take (i := 4) (v := ?v22) (ops_at rfl) (by kernel_rfl) (by kernel_rfl) (by kernel_rfl) (fun _ _ _ h => h) (Or.inl ⟨by rfl, ?hy22⟩) (by assumption) ?rest22
  case hy22 => intro w' hSw; (try dsimp only at hSw); go_simp; try with_reducible rfl
  try simp only [Act.put, List.setIfInBounds_toArray, List.set_cons_zero, List.set_cons_succ]
  refine wpAnyH_take (i := 5) (v := ?v23) (ops_at rfl) (by kernel_rfl) (by kernel_rfl) (by kernel_rfl) (fun _ _ _ h => h) (Or.inl ⟨by rfl, ?hy23⟩) (by assumption) ?rest23
  case hy23 => intro w' hSw; (try dsimp only at hSw); go_simp; try with_reducible rfl
  try simp only [Act.put, List.setIfInBounds_toArray, List.set_cons_zero, List.set_cons_succ]
  refine wpAnyH_take (i := 6) (v := ?v24) (ops_at rfl) (by kernel_rfl) (by kernel_rfl) (by kernel_rfl) (fun _ _ _ h => h) (Or.inl ⟨by rfl, ?hy24⟩) (by assumption) ?rest24
  case hy24 => intro w' hSw; (try dsimp only at hSw); go_simp; try with_reducible rfl
  try simp only [Act.put, List.setIfInBounds_toArray, List.set_cons_zero, List.set_cons_succ]
  refine wpAnyH_take (i := 7) (v := ?v25) (ops_at rfl) (by kernel_rfl) (by kernel_rfl) (by kernel_rfl) (fun _ _ _ h => h) (Or.inl ⟨by rfl, ?hy25⟩) (by assumption) ?rest25
  case hy25 => intro w' hSw; (try dsimp only at hSw); go_simp; try with_reducible rfl
  try simp only [Act.put, List.setIfInBounds_toArray, List.set_cons_zero, List.set_cons_succ]
  refine wpAnyH_take (i := 9) (v := ?v26) (ops_at rfl) (by kernel_rfl) (by kernel_rfl) (by kernel_rfl) (fun _ _ _ h => h) (Or.inl ⟨by rfl, ?hy26⟩) (by assumption) ?rest26
  case hy26 => intro w' hSw; (try dsimp only at hSw); go_simp; try with_reducible rfl
  try simp only [Act.put, List.setIfInBounds_toArray, List.set_cons_zero, List.set_cons_succ]
  refine wpAnyH_take (i := 10) (v := ?v27) (ops_at rfl) (by kernel_rfl) (by kernel_rfl) (by kernel_rfl) (fun _ _ _ h => h) (Or.inl ⟨by rfl, ?hy27⟩) (by assumption) ?rest27
  case hy27 => intro w' hSw; (try dsimp only at hSw); go_simp; try with_reducible rfl
  try simp only [Act.put, List.setIfInBounds_toArray, List.set_cons_zero, List.set_cons_succ]
  refine wpAnyH_take (i := 12) (v := ?v28) (ops_at rfl) (by kernel_rfl) (by kernel_rfl) (by kernel_rfl) (fun _ _ _ h => h) (Or.inl ⟨by rfl, ?hy28⟩) (by assumption) ?rest28
  case hy28 => intro w' hSw; (try dsimp only at hSw); go_simp; try with_reducible rfl
  try simp only [Act.put, List.setIfInBounds_toArray, List.set_cons_zero, List.set_cons_succ]
  refine wpAnyH_take (i := 13) (v := ?v29) (ops_at rfl) (by kernel_rfl) (by kernel_rfl) (by kernel_rfl) (fun _ _ _ h => h) (Or.inl ⟨by rfl, ?hy29⟩) (by assumption) ?rest29
  case hy29 => intro w' hSw; (try dsimp only at hSw); go_simp; try with_reducible rfl
  try simp only [Act.put, List.setIfInBounds_toArray, List.set_cons_zero, List.set_cons_succ]
  refine wpAnyH_take (i := 14) (v := ?v30) (ops_at rfl) (by kernel_rfl) (by kernel_rfl) (by kernel_rfl) (fun _ _ _ h => h) (Or.inl ⟨by rfl, ?hy30⟩) (by assumption) ?rest30
  case hy30 => intro w' hSw; (try dsimp only at hSw); go_simp; try with_reducible rfl
  try simp only [Act.put, List.setIfInBounds_toArray, List.set_cons_zero, List.set_cons_succ]
  refine wpAnyH_take (i := 15) (v := ?v31) (ops_at rfl) (by kernel_rfl) (by kernel_rfl) (by kernel_rfl) (fun _ _ _ h => h) (Or.inl ⟨by rfl, ?hy31⟩) (by assumption) ?rest31
  case hy31 => intro w' hSw; (try dsimp only at hSw); go_simp; try with_reducible rfl
  try simp only [Act.put, List.setIfInBounds_toArray, List.set_cons_zero, List.set_cons_succ]
  refine wpAnyH_ready (rs := [1]) (by kernel_rfl) (by simp) ?_
  refine AllReadyH.cons (ops_at rfl) (fun K hK => ?_) AllReadyH.nil
  go_simp
  refine (stUsed_any S.drew k hk).mono ?_
  rintro e' w2 ⟨rfl, hb2⟩
  rw [HU.out]
  refine hK.out _ _ (by exact ⟨(below_cell hb2 hgl _).trans x3, (below_cell hb2 hgl _).trans cr⟩) (fun hHeld => ?_)
  clear hK K
  try simp only [Act.put, List.setIfInBounds_toArray, List.set_cons_zero, List.set_cons_succ]
  refine wpAnyH_take (i := 8) (v := ?v33) (ops_at rfl) (by kernel_rfl) (by kernel_rfl) (by kernel_rfl) (fun _ _ _ h => h) (Or.inl ⟨by rfl, ?hy33⟩) (by assumption) ?rest33
  case hy33 => intro w' hSw; (try dsimp only at hSw); go_simp; try with_reducible rfl
  try simp only [Act.put, List.setIfInBounds_toArray, List.set_cons_zero, List.set_cons_succ]
  refine wpAnyH_take (i := 11) (v := ?v34) (ops_at rfl) (by kernel_rfl) (by kernel_rfl) (by kernel_rfl) (fun _ _ _ h => h) (Or.inl ⟨by rfl, ?hy34⟩) (by assumption) ?rest34
  case hy34 => intro w' hSw; (try dsimp only at hSw); go_simp; try with_reducible rfl
  try simp only [Act.put, List.setIfInBounds_toArray, List.set_cons_zero, List.set_cons_succ]
  refine wpAnyH_take (i := 16) (v := ?v35) (ops_at rfl) (by kernel_rfl) (by kernel_rfl) (by kernel_rfl) (fun _ _ _ h => h) (Or.inl ⟨by rfl, ?hy35⟩) (by assumption) ?rest35
  case hy35 => intro w' hSw; (try dsimp only at hSw); go_simp; try with_reducible rfl
  try simp only [Act.put, List.setIfInBounds_toArray, List.set_cons_zero, List.set_cons_succ]
  refine wpAnyH_take (i := 17) (v := ?v36) (ops_at rfl) (by kernel_rfl) (by kernel_rfl) (by kernel_rfl) (fun _ _ _ h => h) (Or.inl ⟨by rfl, ?hy36⟩) (by assumption) ?rest36
  case hy36 => intro w' hSw; (try dsimp only at hSw); go_simp; try with_reducible rfl
  try simp only [Act.put, List.setIfInBounds_toArray, List.set_cons_zero, List.set_cons_succ]
  refine wpAnyH_done (by kernel_rfl) ?_ _
  have hb0 : Below w.heap.size w w2 := undrew hb2
  clear hb2 hHeld x0 x1 x2 x3 ct cr
  go_wp2_with fail
  refine (clone_any a b n cap w2 HN.out hm HNil.out (by exact hA.all hb0)).mono ?_
  rintro e' w3 ⟨v, rfl, ho, hb3⟩
  obtain ⟨a3, c3, rfl⟩ := ho.written HN.out
  have hb03 := bst hb0 hb3
  have I3 : IsStore w3 w0.heap.size (fun y => F y ∨ (Value.slice a3 n c3).ownBlock = some y) g s l :=
    (HI.out.stay hb03).mono (fun _ h => .inl h) (fun y hy => by
      rcases hy with hy | hy
      · exact ⟨(HI.out.low y hy).1, Nat.lt_of_lt_of_le (HI.out.low y hy).2 hb03.size⟩
      · have := own_lt ((ownB _ _ _ _).2 ho) y hy
        have h2 := S.size
        have h3 := hb0.size
        exact ⟨by omega, this.2⟩)
  have hLie : BS.Lie w3 (fun y => F y ∨ (Value.slice a3 n c3).ownBlock = some y) g ⟨a3, n, c3, b⟩ := by
    obtain ⟨a', c', e', q1, q2, q3, q4, q5⟩ := OwnG.at eBok ((ownB _ _ _ _).2 ho)
    cases e'
    refine ⟨Own.hd ho, (atB _ _ _).1 q4, fun y hy => ⟨.inr (q5 y hy), ?_⟩⟩
    have h1 := (own_lt ((ownB _ _ _ _).2 ho) y.block (q5 y hy)).1
    have h2 : g < w.heap.size := hgl
    have h3 := hb0.size
    omega
  obtain ⟨I5, ht5⟩ := I3.set2 hkl c HC.out ep ⟨a3, n, c3, b⟩ hLie (by show n ≤ 100; omega)
  have f2 := I3.frozen (c + 2)
  have f3 := I3.frozen (c + 3)
  obtain ⟨y2, y3⟩ : w3.cell? ⟨g, c + 2, none⟩ = some (.int .i64 x.e2) ∧ w3.cell? ⟨g, c + 3, none⟩ = some (.slice x.d2.a x.d2.n x.d2.c) := by
    have := I3.sh hkl c HC.out
    rw [HX.out] at this
    exact this.2.2
  have HOw := hid ho
  clear ho
  go_wp2_with fail
  have cw : ((w3.setCell ⟨g, c + 2, none⟩ (.int .i64 ep)).setCell ⟨g, c + 3, none⟩ (.slice a3 n c3)).cell? ⟨g, 102, none⟩ = some (.int .i64 (s.writes : Int)) := by
    rw [I5.cell]; exact stC_writes _ _ I5.len
  refine (addCell_any cw (I5.frozen 102) (by omega)).mono ?_
  rintro e' w6 ⟨rfl, rfl⟩
  have ht6 := tch ht5 102 (.int .i64 ((s.writes + 1 : Nat) : Int))
  have I7 : IsStore _ w0.heap.size (fun y => F y ∨ (Value.slice a3 n c3).ownBlock = some y) g { s.put N ⟨x.e1, x.d1.l, ep, b⟩ with writes := s.writes + 1 } _ :=
    I5.upd (tch (tch0 g _) 102 (.int .i64 ((s.writes + 1 : Nat) : Int))) (by
      have h1 := rowSet I5.row (i := 102) (.int .i64 ((s.writes + 1 : Nat) : Int))
      rw [stC_setW _ _ I5.len, HX.out] at h1
      exact h1) (by have := I5.len; rw [HX.out] at this; exact this) (by have := I5.ps; rw [HX.out] at this; exact this) (by have := I5.data; rw [HX.out] at this; exact this) (by have := I5.small; rw [HX.out] at this; exact this)
  have S9 := hid (HU2.out _ (storeT g { s.put N ⟨x.e1, x.d1.l, ep, b⟩ with writes := s.writes + 1 }) _ ⟨_, I7⟩ ((Touch.ofBelow (M := F) hb03).trans (N := fun b => b = g) ht6 (fun y hy => by subst hy; exact .inl HI.out.foot)) (fun y hy => by
    rcases hy with hy | hy
    · exact .inl hy
    · have h1 := (hLie.own)
      have h2 := own_lt ((ownB _ _ _ _).2 (show Own w3 w.heap.size _ b from (HOw.out.base hb0.size))) y hy
      exact .inr h2.1))
  go_wp2
  go_ret
  exact ⟨rfl, S9.out⟩
end

end Go.Proofs.Ytiilhfmmclhflaa
