/- Watch: gangs, Count. -/
import Derived.Test.YtilobmefomoemaaWatch2
import Derived.WideMake
namespace Go.Proofs.Ytilobmefomoemaa
set_option linter.unusedVariables false
set_option linter.unusedSimpArgs false
open Go.RowKit
def ofG (j i : Int) (a : AG) : Bool := hasA a && (decide (a.job = j) && decide (a.inc = i))
def cntG (l : List AG) (j i : Int) : Nat := (l.filter (ofG j i)).length
structure GInv (G : List GE) (l : List AG) : Prop where
  len : ∀ x ∈ G, x.L.length = cntG l x.job x.inc ∧ 0 < x.L.length
  all : ∀ a ∈ l, hasA a = true → ∃ x ∈ G, x.job = a.job ∧ x.inc = a.inc
  one : G.Pairwise fun x y => ¬ (x.job = y.job ∧ x.inc = y.inc)
theorem GInv.nil : GInv [] [] := ⟨fun x hx => (by cases hx), fun a ha => (by cases ha), List.Pairwise.nil⟩
theorem cntG_app (l : List AG) (a : AG) (j i : Int) : cntG (l ++ [a]) j i = cntG l j i + if ofG j i a = true then 1 else 0 := by
  unfold cntG
  rw [List.filter_append, List.length_append]
  congr 1
  cases h : ofG j i a <;> simp [h]
theorem cntG_le (l : List AG) (j i : Int) : cntG l j i ≤ l.length := List.length_filter_le _ _
theorem GInv.skip {G : List GE} {l : List AG} (h : GInv G l) {a : AG} (ha : hasA a = false) : GInv G (l ++ [a]) := by
  have e : ∀ j i, cntG (l ++ [a]) j i = cntG l j i := fun j i => by rw [cntG_app, if_neg (by unfold ofG; rw [ha]; simp)]; rfl
  refine ⟨fun x hx => by rw [e]; exact h.len x hx, fun b hb hh => ?_, h.one⟩
  rcases List.mem_append.1 hb with hb | hb
  · exact h.all b hb hh
  · rw [List.mem_singleton.1 hb, ha] at hh; cases hh
theorem ofG_self {a : AG} (ha : hasA a = true) : ofG a.job a.inc a = true := by unfold ofG; rw [ha]; simp
theorem GInv.zero {G : List GE} {l : List AG} (h : GInv G l) {a : AG} (hf : G.findIdx? (gAt a.job a.inc) = none) : cntG l a.job a.inc = 0 := by
  unfold cntG
  rw [List.length_eq_zero_iff, List.filter_eq_nil_iff]
  intro b hb hh
  unfold ofG at hh
  simp only [Bool.and_eq_true, decide_eq_true_eq] at hh
  obtain ⟨x, hx, h1, h2⟩ := h.all b hb hh.1
  have := List.findIdx?_eq_none_iff.1 hf x hx
  rw [gAt_iff.2 ⟨h1.trans hh.2.1, h2.trans hh.2.2⟩] at this
  cases this
theorem GInv.fresh {G : List GE} {l : List AG} (h : GInv G l) {a : AG} (ha : hasA a = true) (hf : G.findIdx? (gAt a.job a.inc) = none) (p : Option Addr) (c : Nat) (L : List AG) (hL : L.length = 1) : GInv (G ++ [⟨a.job, a.inc, p, c, L⟩]) (l ++ [a]) := by
  have hne : ∀ x ∈ G, ¬ (x.job = a.job ∧ x.inc = a.inc) := fun x hx e => by
    have := List.findIdx?_eq_none_iff.1 hf x hx
    rw [gAt_iff.2 e] at this; cases this
  refine ⟨fun x hx => ?_, fun b hb hh => ?_, ?_⟩
  · rcases List.mem_append.1 hx with hx | hx
    · rw [cntG_app, if_neg (fun e => by
        unfold ofG at e
        simp only [Bool.and_eq_true, decide_eq_true_eq] at e
        exact hne x hx ⟨e.2.1.symm, e.2.2.symm⟩)]
      exact h.len x hx
    · rw [List.mem_singleton.1 hx]
      show L.length = cntG (l ++ [a]) a.job a.inc ∧ 0 < L.length
      rw [cntG_app, h.zero hf, if_pos (ofG_self ha), hL]
      exact ⟨rfl, Nat.one_pos⟩
  · rcases List.mem_append.1 hb with hb | hb
    · obtain ⟨x, hx, e⟩ := h.all b hb hh
      exact ⟨x, List.mem_append_left _ hx, e⟩
    · rw [List.mem_singleton.1 hb]
      exact ⟨_, List.mem_append_right _ (List.mem_singleton.2 rfl), rfl, rfl⟩
  · rw [List.pairwise_append]
    refine ⟨h.one, List.pairwise_singleton _ _, fun x hx y hy => ?_⟩
    rw [List.mem_singleton.1 hy]
    exact hne x hx
theorem pw_get {G : List GE} (h : G.Pairwise fun x y => ¬ (x.job = y.job ∧ x.inc = y.inc)) {p q : Nat} (hp : p < G.length) (hq : q < G.length) (hpq : p ≠ q) : ¬ (G[p].job = G[q].job ∧ G[p].inc = G[q].inc) := by
  rw [List.pairwise_iff_getElem] at h
  rcases Nat.lt_or_ge p q with h1 | h1
  · exact h p q hp hq h1
  · intro e
    exact h q p hq hp (by omega) ⟨e.1.symm, e.2.symm⟩
theorem GInv.more {G : List GE} {l : List AG} (h : GInv G l) {a : AG} (ha : hasA a = true) {k : Nat} (hk : k < G.length) (e1 : G[k].job = a.job) (e2 : G[k].inc = a.inc) (p : Option Addr) (c : Nat) (L : List AG) (hL : L.length = G[k].L.length + 1) : GInv (G.set k ⟨a.job, a.inc, p, c, L⟩) (l ++ [a]) := by
  have hself : ofG a.job a.inc a = true := ofG_self ha
  have hget : ∀ q (hq : q < (G.set k ⟨a.job, a.inc, p, c, L⟩).length), (G.set k ⟨a.job, a.inc, p, c, L⟩)[q].job = (G[q]'(by simpa using hq)).job ∧ (G.set k ⟨a.job, a.inc, p, c, L⟩)[q].inc = (G[q]'(by simpa using hq)).inc := by
    intro q hq
    rw [List.getElem_set]
    by_cases e : k = q
    · subst e; rw [if_pos rfl]; exact ⟨e1.symm, e2.symm⟩
    · rw [if_neg e]; exact ⟨rfl, rfl⟩
  refine ⟨fun x hx => ?_, fun b hb hh => ?_, ?_⟩
  · obtain ⟨q, hq, rfl⟩ := List.getElem_of_mem hx
    have hq' : q < G.length := by simpa using hq
    have hx2 := h.len G[q] (List.getElem_mem hq')
    rw [(hget q hq).1, (hget q hq).2, List.getElem_set]
    by_cases e : k = q
    · subst e
      rw [if_pos rfl, e1, e2, cntG_app, if_pos hself]
      rw [e1, e2] at hx2
      show L.length = _ ∧ 0 < L.length
      omega
    · rw [if_neg e, cntG_app, if_neg (fun e3 => by
        unfold ofG at e3
        simp only [Bool.and_eq_true, decide_eq_true_eq] at e3
        exact pw_get h.one hk hq' e ⟨e1.trans e3.2.1, e2.trans e3.2.2⟩)]
      exact hx2
  · have hmem : ∀ q (hq : q < G.length), ∃ x ∈ G.set k ⟨a.job, a.inc, p, c, L⟩, x.job = G[q].job ∧ x.inc = G[q].inc := fun q hq =>
      ⟨_, List.getElem_mem (by simpa using hq), hget q (by simpa using hq)⟩
    rcases List.mem_append.1 hb with hb | hb
    · obtain ⟨x, hx, e⟩ := h.all b hb hh
      obtain ⟨q, hq, rfl⟩ := List.getElem_of_mem hx
      obtain ⟨y, hy, e3⟩ := hmem q hq
      exact ⟨y, hy, e3.1.trans e.1, e3.2.trans e.2⟩
    · rw [List.mem_singleton.1 hb]
      obtain ⟨y, hy, e3⟩ := hmem k hk
      exact ⟨y, hy, e3.1.trans e1, e3.2.trans e2⟩
  · rw [List.pairwise_iff_getElem]
    intro q r hq hr hqr e
    rw [(hget q hq).1, (hget q hq).2, (hget r hr).1, (hget r hr).2] at e
    exact pw_get h.one (by simpa using hq) (by simpa using hr) (by omega) e
def gangL (g : Nat) (G : List GE) : List Thing := objT g (.map (gEs 0 G).toArray G.length) :: G.map GE.own
theorem St.agK {w0 w' : World} {l : List Thing} (S : St w0 w' l) (k : Nat) {b : Nat} {T : TypeId} {x : AG} (h : l[k]? = some (cellsT b T x.cs)) : (w'.cell? ⟨b, 0, none⟩ = some (.bool x.up) ∧ w'.cell? ⟨b, 1, none⟩ = some (.int .i64 x.term) ∧ w'.cell? ⟨b, 2, none⟩ = some (.int .i64 x.gen) ∧ w'.cell? ⟨b, 3, none⟩ = some (.int .i64 x.mode) ∧ w'.cell? ⟨b, 4, none⟩ = some (.int .i64 x.job) ∧ w'.cell? ⟨b, 5, none⟩ = some (.int .i64 x.inc) ∧ w'.cell? ⟨b, 6, none⟩ = some (.int .i64 x.version) ∧ w'.cell? ⟨b, 7, none⟩ = some (.int .i64 x.lease) ∧ w'.cell? ⟨b, 8, none⟩ = some (.int .i64 x.worked) ∧ w'.cell? ⟨b, 9, none⟩ = some (.int .i64 x.to_)) :=
  ⟨S.cell k h 0 rfl, S.cell k h 1 rfl, S.cell k h 2 rfl, S.cell k h 3 rfl, S.cell k h 4 rfl, S.cell k h 5 rfl, S.cell k h 6 rfl, S.cell k h 7 rfl, S.cell k h 8 rfl, S.cell k h 9 rfl⟩
theorem St.atOneG {α : Type} {e : Elt α} (he : e.Ok) {w0 w : World} {l : List Thing} (S : St w0 w l) (k : Nat) {g : Nat} {T : TypeId} {x : α} (h : l[k]? = some (cellsT g T (e.enc x))) : AtG e w (some ⟨g, 0, none⟩) [x] := by
  intro i hi
  obtain rfl : i = 0 := by simp at hi; omega
  refine ⟨rfl, fun j hj => ?_⟩
  have hl : j < (e.enc x).length := by rw [he.len]; exact hj
  rw [show adr (some ⟨g, 0, none⟩) (0 * e.s + j) = ⟨g, j, none⟩ by simp [adr, Addr.add_lit]]
  rw [S.cell k h j (List.getElem?_eq_getElem hl)]
  exact (List.getElem?_eq_getElem hl).symm
def GangPost (w : World) (L : List AG) (e : Ending) (w' : World) : Prop := ∃ g G, e = .returned (.map (some g)) ∧ GInv G L ∧ G.length ≤ L.length ∧ St w w' (gangL g G)
set_option maxRecDepth 10000 in
set_option maxHeartbeats 12800000 in
theorem wtGangs (a : Option Addr) (L : List AG) (n cap : Nat) (w : World) (hn : L.length = n) (hm : n ≤ 1000000) (hA : AtG eAG w a L) :
    Calls Try.prog 20 #[.slice a n cap] w (GangPost w L) := by
  have HN := hid hn
  have HA := hid hA
  have h0 := run_makeMap_plain (P := Try.prog) w 53
  have S1 : St w (w.alloc (.map #[] 0)) (gangL w.heap.size []) := (St.start w).newObj (.map #[] 0)
  clear hn hA
  go_enter Try.func20, Try.ntmps20
  go_wp2_with fail
  obtain ⟨gm, hgm⟩ : ∃ gm, w.heap.size = gm := ⟨_, rfl⟩
  rw [hgm] at S1 ⊢
  clear hgm h0
  go_loopw [9] (fun i wr => ∃ (k : Nat) (G : List GE), k ≤ n ∧ i = .int .i64 k ∧ GInv G (L.take k) ∧ G.length ≤ k ∧ St w wr (gangL gm G)) (fun i _ => n - (intOf i).toNat)
  case atStart => exact ⟨0, [], Nat.zero_le _, rfl, GInv.nil, Nat.le_refl _, S1⟩
  case round =>
    obtain ⟨k, G, hk, rfl, hI, hGk, Sk⟩ := hrel
    have HI := hid hI
    clear S1 hI
    by_cases hlt : k < n
    case neg =>
      have g0 : decide ((k : Int) < (n : Int)) = false := decide_eq_false (by omega)
      have g0n : decide (k < n) = false := decide_eq_false (by omega)
      have HI2 : Hid (GInv G L) := by
        have := HI.out
        rw [List.take_of_length_le (by rw [HN.out]; omega)] at this
        exact this
      clear hlt
      go_wp2
      go_ret
      exact ⟨gm, G, rfl, HI2.out, by rw [HN.out]; omega, Sk⟩
    have g0 : decide ((k : Int) < (n : Int)) = true := decide_eq_true (by omega)
    have g0n : decide (k < n) = true := decide_eq_true (by omega)
    have hkl : k < L.length := by rw [HN.out]; exact hlt
    have hAk : AtG eAG wr a L := HA.out.all eAGok Sk.fin
    have i0 := fun wx => idxAG a n cap (fun h => hAk.ok (by omega)) k hlt wx
    obtain ⟨y0, y1, y2, y3, y4, y5, y6, y7, y8, y9⟩ := hAk.agAt hkl
    have HTk : Hid (L.take (k + 1) = L.take k ++ [L[k]]) := by rw [Hid, List.take_add_one, List.getElem?_eq_getElem hkl]; rfl
    generalize L[k] = x at *
    generalize adr a (k * 10) = A at *
    have S2 : St w (wr.alloc (.cells #[.bool x.up, .int .i64 x.term, .int .i64 x.gen, .int .i64 x.mode, .int .i64 x.job, .int .i64 x.inc, .int .i64 x.version, .int .i64 x.lease, .int .i64 x.worked, .int .i64 x.to_] 31)) (cellsT wr.heap.size 31 x.cs :: gangL gm G) := (newAtG Sk 31 #[.bool x.up, .int .i64 x.term, .int .i64 x.gen, .int .i64 x.mode, .int .i64 x.job, .int .i64 x.inc, .int .i64 x.version, .int .i64 x.lease, .int .i64 x.worked, .int .i64 x.to_] _ rfl).rot
    clear hAk
    go_wp2_with fail
    generalize wr.heap.size = b at *
    generalize wr.alloc _ = w2 at *
    refine (wtHas x _).mono ?_
    rintro e w3 ⟨rfl, hb3⟩
    have S3 := S2.grow hb3
    clear S2 hb3 Sk y0 y1 y2 y3 y4 y5 y6 y7 y8 y9 i0
    cases hh : hasA x
    · have HI2 : Hid (GInv G (L.take (k + 1))) := by rw [Hid, HTk.out]; exact HI.out.skip hh
      clear hh HTk HI
      go_wp2
      go_roundw
      case rel => exact ⟨k + 1, G, by omega, by go_num, HI2.out, by omega, S3.tail⟩
      case measure => simp [intOf]; omega
    have keep : ∀ {w' : World} {l : List Thing}, St w w' (cellsT b 31 x.cs :: l) → (w'.cell? ⟨b, 0, none⟩ = some (.bool x.up) ∧ w'.cell? ⟨b, 1, none⟩ = some (.int .i64 x.term) ∧ w'.cell? ⟨b, 2, none⟩ = some (.int .i64 x.gen) ∧ w'.cell? ⟨b, 3, none⟩ = some (.int .i64 x.mode) ∧ w'.cell? ⟨b, 4, none⟩ = some (.int .i64 x.job) ∧ w'.cell? ⟨b, 5, none⟩ = some (.int .i64 x.inc) ∧ w'.cell? ⟨b, 6, none⟩ = some (.int .i64 x.version) ∧ w'.cell? ⟨b, 7, none⟩ = some (.int .i64 x.lease) ∧ w'.cell? ⟨b, 8, none⟩ = some (.int .i64 x.worked) ∧ w'.cell? ⟨b, 9, none⟩ = some (.int .i64 x.to_)) := fun S => S.agK 0 rfl
    have keep2 : ∀ {w' : World} {l : List Thing} {y : Thing}, St w w' (y :: cellsT b 31 x.cs :: l) → (w'.cell? ⟨b, 0, none⟩ = some (.bool x.up) ∧ w'.cell? ⟨b, 1, none⟩ = some (.int .i64 x.term) ∧ w'.cell? ⟨b, 2, none⟩ = some (.int .i64 x.gen) ∧ w'.cell? ⟨b, 3, none⟩ = some (.int .i64 x.mode) ∧ w'.cell? ⟨b, 4, none⟩ = some (.int .i64 x.job) ∧ w'.cell? ⟨b, 5, none⟩ = some (.int .i64 x.inc) ∧ w'.cell? ⟨b, 6, none⟩ = some (.int .i64 x.version) ∧ w'.cell? ⟨b, 7, none⟩ = some (.int .i64 x.lease) ∧ w'.cell? ⟨b, 8, none⟩ = some (.int .i64 x.worked) ∧ w'.cell? ⟨b, 9, none⟩ = some (.int .i64 x.to_)) := fun S => S.agK 1 rfl
    go_wp2_with fail
    cases hf : G.findIdx? (gAt x.job x.inc) with
    | none =>
      have hv : gVal G x.job x.inc = .slice none 0 0 := by
        unfold gVal
        rw [List.find?_eq_none.2 (fun y hy => by have := List.findIdx?_eq_none_iff.1 hf y hy; simp [this])]
      have HF : Hid (∀ p c (l : List AG), l.length = 1 → GInv (G ++ [⟨x.job, x.inc, p, c, l⟩]) (L.take (k + 1))) := fun p c l hl => by rw [HTk.out]; exact HI.out.fresh hh hf p c l hl
      have HP : Hid (∀ p c (l : List AG), gPut G x.job x.inc p c l = G ++ [⟨x.job, x.inc, p, c, l⟩]) := fun p c l => by unfold gPut; rw [hf]
      have Hv := hid hv
      clear hh HTk HI hf hv
      refine wp_region_held_drew (S := (fun w' => (w'.cell? ⟨b, 0, none⟩ = some (.bool x.up) ∧ w'.cell? ⟨b, 1, none⟩ = some (.int .i64 x.term) ∧ w'.cell? ⟨b, 2, none⟩ = some (.int .i64 x.gen) ∧ w'.cell? ⟨b, 3, none⟩ = some (.int .i64 x.mode) ∧ w'.cell? ⟨b, 4, none⟩ = some (.int .i64 x.job) ∧ w'.cell? ⟨b, 5, none⟩ = some (.int .i64 x.inc) ∧ w'.cell? ⟨b, 6, none⟩ = some (.int .i64 x.version) ∧ w'.cell? ⟨b, 7, none⟩ = some (.int .i64 x.lease) ∧ w'.cell? ⟨b, 8, none⟩ = some (.int .i64 x.worked) ∧ w'.cell? ⟨b, 9, none⟩ = some (.int .i64 x.to_)))) (by kernel_rfl) (by exact keep S3.drew) (fun hHeld => ?_)
      change wpAnyH _ _ _ _ _ 11 (Array.replicate 11 false) _ _
      refine wpAnyH_take (i := 0) (v := ?v1) (ops_at rfl) (by kernel_rfl) (by kernel_rfl) (by kernel_rfl) (fun _ _ _ h => h) (Or.inl ⟨by rfl, ?hy1⟩) (by assumption) ?rest1
      case hy1 => intro w' hSw; (try dsimp only at hSw); go_simp; try with_reducible rfl
      try simp only [Act.put, List.setIfInBounds_toArray, List.set_cons_zero, List.set_cons_succ]
      refine wpAnyH_take (i := 1) (v := ?v2) (ops_at rfl) (by kernel_rfl) (by kernel_rfl) (by kernel_rfl) (fun _ _ _ h => h) (Or.inl ⟨by rfl, ?hy2⟩) (by assumption) ?rest2
      case hy2 => intro w' hSw; (try dsimp only at hSw); go_simp; try with_reducible rfl
      try simp only [Act.put, List.setIfInBounds_toArray, List.set_cons_zero, List.set_cons_succ]
      refine wpAnyH_take (i := 3) (v := ?v3) (ops_at rfl) (by kernel_rfl) (by kernel_rfl) (by kernel_rfl) (fun _ _ _ h => h) (Or.inl ⟨by rfl, ?hy3⟩) (by assumption) ?rest3
      case hy3 => intro w' hSw; (try dsimp only at hSw); go_simp; try with_reducible rfl
      try simp only [Act.put, List.setIfInBounds_toArray, List.set_cons_zero, List.set_cons_succ]
      refine wpAnyH_take (i := 4) (v := ?v4) (ops_at rfl) (by kernel_rfl) (by kernel_rfl) (by kernel_rfl) (fun _ _ _ h => h) (Or.inl ⟨by rfl, ?hy4⟩) (by assumption) ?rest4
      case hy4 => intro w' hSw; (try dsimp only at hSw); go_simp; try with_reducible rfl
      try simp only [Act.put, List.setIfInBounds_toArray, List.set_cons_zero, List.set_cons_succ]
      refine wpAnyH_take (i := 7) (v := ?v5) (ops_at rfl) (by kernel_rfl) (by kernel_rfl) (by kernel_rfl) (fun _ _ _ h => h) (Or.inl ⟨by rfl, ?hy5⟩) (by assumption) ?rest5
      case hy5 => intro w' hSw; (try dsimp only at hSw); go_simp; try with_reducible rfl
      try simp only [Act.put, List.setIfInBounds_toArray, List.set_cons_zero, List.set_cons_succ]
      refine wpAnyH_ready (rs := [2, 8]) (by kernel_rfl) (by simp) ?_
      refine AllReadyH.cons (ops_at rfl) (fun K hK => ?_) (AllReadyH.cons (ops_at rfl) (fun K hK => ?_) AllReadyH.nil)
      · go_simp
        refine (wtOf x _).mono ?_
        rintro e w4 ⟨rfl, hb4⟩
        have S4 := S3.drew.grow hb4
        clear hb4
        refine hK.out _ _ (by exact keep S4) (fun hHeld => ?_)
        clear hK K
        try simp only [Act.put, List.setIfInBounds_toArray, List.set_cons_zero, List.set_cons_succ]
        refine wpAnyH_ready (rs := [5, 8]) (by kernel_rfl) (by simp) ?_
        refine AllReadyH.cons (ops_at rfl) (fun K hK => ?_) (AllReadyH.cons (ops_at rfl) (fun K hK => ?_) AllReadyH.nil)
        · go_simp
          refine (wtOf x _).mono ?_
          rintro e w5 ⟨rfl, hb5⟩
          have S5 := S4.grow hb5
          clear hb5
          have hlk := lookG (S5.obj 1 rfl) x.job x.inc
          rw [Hv.out] at hlk
          refine hK.out _ _ (by exact keep S5) (fun hHeld => ?_)
          clear hK K
          try simp only [Act.put, List.setIfInBounds_toArray, List.set_cons_zero, List.set_cons_succ]
          refine wpAnyH_ready (rs := [6, 8]) (by kernel_rfl) (by simp) ?_
          refine AllReadyH.cons (ops_at rfl) (fun K hK => ?_) (AllReadyH.cons (ops_at rfl) (fun K hK => ?_) AllReadyH.nil)
          · go_simp
            clear hlk
            refine hK.out _ _ (by exact keep S5) (fun hHeld => ?_)
            clear hK K
            try simp only [Act.put, List.setIfInBounds_toArray, List.set_cons_zero, List.set_cons_succ]
            refine wpAnyH_ready (rs := [8]) (by kernel_rfl) (by simp) ?_
            refine AllReadyH.cons (ops_at rfl) (fun K hK => ?_) AllReadyH.nil
            go_simp
            have S6 : St w _ (cellsT w5.heap.size 31 x.cs :: cellsT b 31 x.cs :: gangL gm G) := (newAtG S5 31 #[.bool x.up, .int .i64 x.term, .int .i64 x.gen, .int .i64 x.mode, .int .i64 x.job, .int .i64 x.inc, .int .i64 x.version, .int .i64 x.lease, .int .i64 x.worked, .int .i64 x.to_] _ rfl).rot
            obtain ⟨gB, hgB⟩ : ∃ gB, w5.heap.size = gB := ⟨_, rfl⟩
            obtain ⟨wB, hwB⟩ : ∃ wB, w5.alloc (.cells #[.bool x.up, .int .i64 x.term, .int .i64 x.gen, .int .i64 x.mode, .int .i64 x.job, .int .i64 x.inc, .int .i64 x.version, .int .i64 x.lease, .int .i64 x.worked, .int .i64 x.to_] 31) = wB := ⟨_, rfl⟩
            rw [hgB, hwB] at S6
            rw [hgB, hwB]
            clear hgB hwB
            refine hK.out _ _ (by exact keep2 S6) (fun hHeld => ?_)
            clear hK K
            try simp only [Act.put, List.setIfInBounds_toArray, List.set_cons_zero, List.set_cons_succ]
            refine wpAnyH_ready (rs := [9]) (by kernel_rfl) (by simp) ?_
            refine AllReadyH.cons (ops_at rfl) (fun K hK => ?_) AllReadyH.nil
            refine step_app (by rfl) (.tmp 21) (.tmp 23) eAG.T eAG.T eAG.T rfl rfl _ _ rfl rfl ((S6.nilG eAG).rot.appG eAGok 0 rfl (some ⟨gB, 0, none⟩) [x] 1 1 rfl (S6.atOneG eAGok 0 rfl) 1 rfl (by decide) (by unfold maxLen; omega)) ?_
            rintro v7 w7 ⟨⟨a7, c7, rfl⟩, S7⟩
            have hput := putG (S7.obj 3 rfl) x.job x.inc a7 c7 [x]
            rw [HP.out, show [x].length = 1 from rfl] at hput
            obtain ⟨ob, hob⟩ : ∃ ob, Obj.map (gEs 0 (G ++ [(⟨x.job, x.inc, a7, c7, [x]⟩ : GE)])).toArray (G ++ [(⟨x.job, x.inc, a7, c7, [x]⟩ : GE)]).length = ob := ⟨_, rfl⟩
            rw [hob] at hput
            have HOB := hid hob
            clear hob
            have S8 : St w _ (ownT eAG (.slice a7 1 c7) [x] :: cellsT gB 31 x.cs :: cellsT b 31 x.cs :: objT gm ob :: G.map GE.own) := S7.putObj 3 rfl ob
            refine hK.out _ _ (by exact keep2 S7.tail) (fun hHeld => ?_)
            clear hK K
            try simp only [Act.put, List.setIfInBounds_toArray, List.set_cons_zero, List.set_cons_succ]
            refine wpAnyH_ready (rs := [10]) (by kernel_rfl) (by simp) ?_
            refine AllReadyH.cons (ops_at rfl) (fun K hK => ?_) AllReadyH.nil
            go_simp
            refine hK.out _ _ (by exact keep2 S8.tail) (fun hHeld => ?_)
            clear hK K
            try simp only [Act.put, List.setIfInBounds_toArray, List.set_cons_zero, List.set_cons_succ]
            refine wpAnyH_done (by kernel_rfl) ?_ _
            have S9 : St w (putO w7 gm ob) (gangL gm (G ++ [(⟨x.job, x.inc, a7, c7, [x]⟩ : GE)])) := by
              have := ((S8.front 1 rfl).tail.front 1 rfl).tail
              have := St.unrot this
              unfold gangL
              rw [List.map_append, HOB.out]
              exact this
            have HI3 := hid (HF.out a7 c7 [x] rfl)
            clear S7 S8 S6 hput
            go_wp2
            go_roundw
            case rel => exact ⟨k + 1, _, by omega, by go_num, HI3.out, by simp; omega, S9⟩
            case measure => simp [intOf]; omega
          · go_simp
            have S6 : St w _ (cellsT w5.heap.size 31 x.cs :: cellsT b 31 x.cs :: gangL gm G) := (newAtG S5 31 #[.bool x.up, .int .i64 x.term, .int .i64 x.gen, .int .i64 x.mode, .int .i64 x.job, .int .i64 x.inc, .int .i64 x.version, .int .i64 x.lease, .int .i64 x.worked, .int .i64 x.to_] _ rfl).rot
            obtain ⟨gB, hgB⟩ : ∃ gB, w5.heap.size = gB := ⟨_, rfl⟩
            obtain ⟨wB, hwB⟩ : ∃ wB, w5.alloc (.cells #[.bool x.up, .int .i64 x.term, .int .i64 x.gen, .int .i64 x.mode, .int .i64 x.job, .int .i64 x.inc, .int .i64 x.version, .int .i64 x.lease, .int .i64 x.worked, .int .i64 x.to_] 31) = wB := ⟨_, rfl⟩
            rw [hgB, hwB] at S6
            rw [hgB, hwB]
            clear hgB hwB
            refine hK.out _ _ (by exact keep2 S6) (fun hHeld => ?_)
            clear hK K
            try simp only [Act.put, List.setIfInBounds_toArray, List.set_cons_zero, List.set_cons_succ]
            have hlk := lookG (S6.obj 2 rfl) x.job x.inc
            rw [Hv.out] at hlk
            refine wpAnyH_ready (rs := [6]) (by kernel_rfl) (by simp) ?_
            refine AllReadyH.cons (ops_at rfl) (fun K hK => ?_) AllReadyH.nil
            go_simp
            refine hK.out _ _ (by exact keep2 S6) (fun hHeld => ?_)
            clear hK K
            try simp only [Act.put, List.setIfInBounds_toArray, List.set_cons_zero, List.set_cons_succ]
            clear hlk
            refine wpAnyH_ready (rs := [9]) (by kernel_rfl) (by simp) ?_
            refine AllReadyH.cons (ops_at rfl) (fun K hK => ?_) AllReadyH.nil
            refine step_app (by rfl) (.tmp 21) (.tmp 23) eAG.T eAG.T eAG.T rfl rfl _ _ rfl rfl ((S6.nilG eAG).rot.appG eAGok 0 rfl (some ⟨gB, 0, none⟩) [x] 1 1 rfl (S6.atOneG eAGok 0 rfl) 1 rfl (by decide) (by unfold maxLen; omega)) ?_
            rintro v7 w7 ⟨⟨a7, c7, rfl⟩, S7⟩
            have hput := putG (S7.obj 3 rfl) x.job x.inc a7 c7 [x]
            rw [HP.out, show [x].length = 1 from rfl] at hput
            obtain ⟨ob, hob⟩ : ∃ ob, Obj.map (gEs 0 (G ++ [(⟨x.job, x.inc, a7, c7, [x]⟩ : GE)])).toArray (G ++ [(⟨x.job, x.inc, a7, c7, [x]⟩ : GE)]).length = ob := ⟨_, rfl⟩
            rw [hob] at hput
            have HOB := hid hob
            clear hob
            have S8 : St w _ (ownT eAG (.slice a7 1 c7) [x] :: cellsT gB 31 x.cs :: cellsT b 31 x.cs :: objT gm ob :: G.map GE.own) := S7.putObj 3 rfl ob
            refine hK.out _ _ (by exact keep2 S7.tail) (fun hHeld => ?_)
            clear hK K
            try simp only [Act.put, List.setIfInBounds_toArray, List.set_cons_zero, List.set_cons_succ]
            refine wpAnyH_ready (rs := [10]) (by kernel_rfl) (by simp) ?_
            refine AllReadyH.cons (ops_at rfl) (fun K hK => ?_) AllReadyH.nil
            go_simp
            refine hK.out _ _ (by exact keep2 S8.tail) (fun hHeld => ?_)
            clear hK K
            try simp only [Act.put, List.setIfInBounds_toArray, List.set_cons_zero, List.set_cons_succ]
            refine wpAnyH_done (by kernel_rfl) ?_ _
            have S9 : St w (putO w7 gm ob) (gangL gm (G ++ [(⟨x.job, x.inc, a7, c7, [x]⟩ : GE)])) := by
              have := ((S8.front 1 rfl).tail.front 1 rfl).tail
              have := St.unrot this
              unfold gangL
              rw [List.map_append, HOB.out]
              exact this
            have HI3 := hid (HF.out a7 c7 [x] rfl)
            clear S7 S8 S6 hput
            go_wp2
            go_roundw
            case rel => exact ⟨k + 1, _, by omega, by go_num, HI3.out, by simp; omega, S9⟩
            case measure => simp [intOf]; omega
        · go_simp
          have S5 : St w _ (cellsT w4.heap.size 31 x.cs :: cellsT b 31 x.cs :: gangL gm G) := (newAtG S4 31 #[.bool x.up, .int .i64 x.term, .int .i64 x.gen, .int .i64 x.mode, .int .i64 x.job, .int .i64 x.inc, .int .i64 x.version, .int .i64 x.lease, .int .i64 x.worked, .int .i64 x.to_] _ rfl).rot
          obtain ⟨gB, hgB⟩ : ∃ gB, w4.heap.size = gB := ⟨_, rfl⟩
          obtain ⟨wB, hwB⟩ : ∃ wB, w4.alloc (.cells #[.bool x.up, .int .i64 x.term, .int .i64 x.gen, .int .i64 x.mode, .int .i64 x.job, .int .i64 x.inc, .int .i64 x.version, .int .i64 x.lease, .int .i64 x.worked, .int .i64 x.to_] 31) = wB := ⟨_, rfl⟩
          rw [hgB, hwB] at S5
          rw [hgB, hwB]
          clear hgB hwB
          refine hK.out _ _ (by exact keep2 S5) (fun hHeld => ?_)
          clear hK K
          try simp only [Act.put, List.setIfInBounds_toArray, List.set_cons_zero, List.set_cons_succ]
          refine wpAnyH_ready (rs := [5]) (by kernel_rfl) (by simp) ?_
          refine AllReadyH.cons (ops_at rfl) (fun K hK => ?_) AllReadyH.nil
          go_simp
          refine (wtOf x _).mono ?_
          rintro e w6 ⟨rfl, hb6⟩
          have S6 := S5.grow hb6
          clear hb6
          have hlk := lookG (S6.obj 2 rfl) x.job x.inc
          rw [Hv.out] at hlk
          refine hK.out _ _ (by exact keep2 S6) (fun hHeld => ?_)
          clear hK K
          try simp only [Act.put, List.setIfInBounds_toArray, List.set_cons_zero, List.set_cons_succ]
          refine wpAnyH_ready (rs := [6]) (by kernel_rfl) (by simp) ?_
          refine AllReadyH.cons (ops_at rfl) (fun K hK => ?_) AllReadyH.nil
          go_simp
          refine hK.out _ _ (by exact keep2 S6) (fun hHeld => ?_)
          clear hK K
          try simp only [Act.put, List.setIfInBounds_toArray, List.set_cons_zero, List.set_cons_succ]
          clear hlk
          refine wpAnyH_ready (rs := [9]) (by kernel_rfl) (by simp) ?_
          refine AllReadyH.cons (ops_at rfl) (fun K hK => ?_) AllReadyH.nil
          refine step_app (by rfl) (.tmp 21) (.tmp 23) eAG.T eAG.T eAG.T rfl rfl _ _ rfl rfl ((S6.nilG eAG).rot.appG eAGok 0 rfl (some ⟨gB, 0, none⟩) [x] 1 1 rfl (S6.atOneG eAGok 0 rfl) 1 rfl (by decide) (by unfold maxLen; omega)) ?_
          rintro v7 w7 ⟨⟨a7, c7, rfl⟩, S7⟩
          have hput := putG (S7.obj 3 rfl) x.job x.inc a7 c7 [x]
          rw [HP.out, show [x].length = 1 from rfl] at hput
          obtain ⟨ob, hob⟩ : ∃ ob, Obj.map (gEs 0 (G ++ [(⟨x.job, x.inc, a7, c7, [x]⟩ : GE)])).toArray (G ++ [(⟨x.job, x.inc, a7, c7, [x]⟩ : GE)]).length = ob := ⟨_, rfl⟩
          rw [hob] at hput
          have HOB := hid hob
          clear hob
          have S8 : St w _ (ownT eAG (.slice a7 1 c7) [x] :: cellsT gB 31 x.cs :: cellsT b 31 x.cs :: objT gm ob :: G.map GE.own) := S7.putObj 3 rfl ob
          refine hK.out _ _ (by exact keep2 S7.tail) (fun hHeld => ?_)
          clear hK K
          try simp only [Act.put, List.setIfInBounds_toArray, List.set_cons_zero, List.set_cons_succ]
          refine wpAnyH_ready (rs := [10]) (by kernel_rfl) (by simp) ?_
          refine AllReadyH.cons (ops_at rfl) (fun K hK => ?_) AllReadyH.nil
          go_simp
          refine hK.out _ _ (by exact keep2 S8.tail) (fun hHeld => ?_)
          clear hK K
          try simp only [Act.put, List.setIfInBounds_toArray, List.set_cons_zero, List.set_cons_succ]
          refine wpAnyH_done (by kernel_rfl) ?_ _
          have S9 : St w (putO w7 gm ob) (gangL gm (G ++ [(⟨x.job, x.inc, a7, c7, [x]⟩ : GE)])) := by
            have := ((S8.front 1 rfl).tail.front 1 rfl).tail
            have := St.unrot this
            unfold gangL
            rw [List.map_append, HOB.out]
            exact this
          have HI3 := hid (HF.out a7 c7 [x] rfl)
          clear S7 S8 S6 hput
          go_wp2
          go_roundw
          case rel => exact ⟨k + 1, _, by omega, by go_num, HI3.out, by simp; omega, S9⟩
          case measure => simp [intOf]; omega
      · go_simp
        have S4 : St w (w3.alloc (.cells #[.bool x.up, .int .i64 x.term, .int .i64 x.gen, .int .i64 x.mode, .int .i64 x.job, .int .i64 x.inc, .int .i64 x.version, .int .i64 x.lease, .int .i64 x.worked, .int .i64 x.to_] 31)).drew (cellsT w3.heap.size 31 x.cs :: cellsT b 31 x.cs :: gangL gm G) := (newAtG S3 31 #[.bool x.up, .int .i64 x.term, .int .i64 x.gen, .int .i64 x.mode, .int .i64 x.job, .int .i64 x.inc, .int .i64 x.version, .int .i64 x.lease, .int .i64 x.worked, .int .i64 x.to_] _ rfl).rot.drew
        obtain ⟨gB, hgB⟩ : ∃ gB, w3.heap.size = gB := ⟨_, rfl⟩
        obtain ⟨wB, hwB⟩ : ∃ wB, (w3.alloc (.cells #[.bool x.up, .int .i64 x.term, .int .i64 x.gen, .int .i64 x.mode, .int .i64 x.job, .int .i64 x.inc, .int .i64 x.version, .int .i64 x.lease, .int .i64 x.worked, .int .i64 x.to_] 31)).drew = wB := ⟨_, rfl⟩
        rw [hgB, hwB] at S4
        rw [hgB, hwB]
        clear hgB hwB
        refine hK.out _ _ (by exact keep2 S4) (fun hHeld => ?_)
        clear hK K
        try simp only [Act.put, List.setIfInBounds_toArray, List.set_cons_zero, List.set_cons_succ]
        refine wpAnyH_ready (rs := [2]) (by kernel_rfl) (by simp) ?_
        refine AllReadyH.cons (ops_at rfl) (fun K hK => ?_) AllReadyH.nil
        go_simp
        refine (wtOf x _).mono ?_
        rintro e w5 ⟨rfl, hb5⟩
        have S5 := S4.grow hb5
        clear hb5
        refine hK.out _ _ (by exact keep2 S5) (fun hHeld => ?_)
        clear hK K
        try simp only [Act.put, List.setIfInBounds_toArray, List.set_cons_zero, List.set_cons_succ]
        refine wpAnyH_ready (rs := [5]) (by kernel_rfl) (by simp) ?_
        refine AllReadyH.cons (ops_at rfl) (fun K hK => ?_) AllReadyH.nil
        go_simp
        refine (wtOf x _).mono ?_
        rintro e w6 ⟨rfl, hb6⟩
        have S6 := S5.grow hb6
        clear hb6
        have hlk := lookG (S6.obj 2 rfl) x.job x.inc
        rw [Hv.out] at hlk
        refine hK.out _ _ (by exact keep2 S6) (fun hHeld => ?_)
        clear hK K
        try simp only [Act.put, List.setIfInBounds_toArray, List.set_cons_zero, List.set_cons_succ]
        refine wpAnyH_ready (rs := [6]) (by kernel_rfl) (by simp) ?_
        refine AllReadyH.cons (ops_at rfl) (fun K hK => ?_) AllReadyH.nil
        go_simp
        refine hK.out _ _ (by exact keep2 S6) (fun hHeld => ?_)
        clear hK K
        try simp only [Act.put, List.setIfInBounds_toArray, List.set_cons_zero, List.set_cons_succ]
        clear hlk
        refine wpAnyH_ready (rs := [9]) (by kernel_rfl) (by simp) ?_
        refine AllReadyH.cons (ops_at rfl) (fun K hK => ?_) AllReadyH.nil
        refine step_app (by rfl) (.tmp 21) (.tmp 23) eAG.T eAG.T eAG.T rfl rfl _ _ rfl rfl ((S6.nilG eAG).rot.appG eAGok 0 rfl (some ⟨gB, 0, none⟩) [x] 1 1 rfl (S6.atOneG eAGok 0 rfl) 1 rfl (by decide) (by unfold maxLen; omega)) ?_
        rintro v7 w7 ⟨⟨a7, c7, rfl⟩, S7⟩
        have hput := putG (S7.obj 3 rfl) x.job x.inc a7 c7 [x]
        rw [HP.out, show [x].length = 1 from rfl] at hput
        obtain ⟨ob, hob⟩ : ∃ ob, Obj.map (gEs 0 (G ++ [(⟨x.job, x.inc, a7, c7, [x]⟩ : GE)])).toArray (G ++ [(⟨x.job, x.inc, a7, c7, [x]⟩ : GE)]).length = ob := ⟨_, rfl⟩
        rw [hob] at hput
        have HOB := hid hob
        clear hob
        have S8 : St w _ (ownT eAG (.slice a7 1 c7) [x] :: cellsT gB 31 x.cs :: cellsT b 31 x.cs :: objT gm ob :: G.map GE.own) := S7.putObj 3 rfl ob
        refine hK.out _ _ (by exact keep2 S7.tail) (fun hHeld => ?_)
        clear hK K
        try simp only [Act.put, List.setIfInBounds_toArray, List.set_cons_zero, List.set_cons_succ]
        refine wpAnyH_ready (rs := [10]) (by kernel_rfl) (by simp) ?_
        refine AllReadyH.cons (ops_at rfl) (fun K hK => ?_) AllReadyH.nil
        go_simp
        refine hK.out _ _ (by exact keep2 S8.tail) (fun hHeld => ?_)
        clear hK K
        try simp only [Act.put, List.setIfInBounds_toArray, List.set_cons_zero, List.set_cons_succ]
        refine wpAnyH_done (by kernel_rfl) ?_ _
        have S9 : St w (putO w7 gm ob) (gangL gm (G ++ [(⟨x.job, x.inc, a7, c7, [x]⟩ : GE)])) := by
          have := ((S8.front 1 rfl).tail.front 1 rfl).tail
          have := St.unrot this
          unfold gangL
          rw [List.map_append, HOB.out]
          exact this
        have HI3 := hid (HF.out a7 c7 [x] rfl)
        clear S7 S8 S6 hput
        go_wp2
        go_roundw
        case rel => exact ⟨k + 1, _, by omega, by go_num, HI3.out, by simp; omega, S9⟩
        case measure => simp [intOf]; omega
    | some q =>
      obtain ⟨hql, h1, h3⟩ := List.findIdx?_eq_some_iff_getElem.1 hf
      obtain ⟨e1, e2⟩ := gAt_iff.1 h1
      have hv : gVal G x.job x.inc = G[q].sl := by
        unfold gVal
        rw [List.find?_eq_some_iff_getElem.2 ⟨h1, q, hql, rfl, fun p hp => by simpa using h3 p hp⟩]
      have HF : Hid (∀ p c (l : List AG), l.length = G[q].L.length + 1 → GInv (G.set q ⟨x.job, x.inc, p, c, l⟩) (L.take (k + 1))) := fun p c l hl => by rw [HTk.out]; exact HI.out.more hh hql e1 e2 p c l hl
      have HP : Hid (∀ p c (l : List AG), gPut G x.job x.inc p c l = G.set q ⟨x.job, x.inc, p, c, l⟩) := fun p c l => by unfold gPut; rw [hf]
      have hML : G[q].L.length ≤ k := by
        rw [(HI.out.len _ (List.getElem_mem hql)).1]
        refine Nat.le_trans (cntG_le _ _ _) ?_
        rw [List.length_take]; omega
      have hown : Hid ((G.map GE.own)[q]? = some G[q].own) := by rw [Hid, List.getElem?_map, List.getElem?_eq_getElem hql]; rfl
      unfold GE.sl at hv
      generalize G[q] = y at *
      obtain ⟨M, hM⟩ : ∃ M, y.L.length = M := ⟨_, rfl⟩
      obtain ⟨N, hN⟩ : ∃ N, (y.L ++ [x]).length = N := ⟨_, rfl⟩
      have hNM : M + 1 = N := by rw [← hM, ← hN]; simp
      have hown2 : Hid ((G.map GE.own)[q]? = some (ownT eAG (.slice y.a M y.c) y.L)) := by rw [Hid, hown.out, ← hM]; rfl
      rw [hM] at hv hML
      have Hv := hid hv
      have HM := hid hM
      have HN2 := hid hN
      clear hh HTk HI hf hv h1 h3 e1 e2 hM hN hown
      refine wp_region_held_drew (S := (fun w' => (w'.cell? ⟨b, 0, none⟩ = some (.bool x.up) ∧ w'.cell? ⟨b, 1, none⟩ = some (.int .i64 x.term) ∧ w'.cell? ⟨b, 2, none⟩ = some (.int .i64 x.gen) ∧ w'.cell? ⟨b, 3, none⟩ = some (.int .i64 x.mode) ∧ w'.cell? ⟨b, 4, none⟩ = some (.int .i64 x.job) ∧ w'.cell? ⟨b, 5, none⟩ = some (.int .i64 x.inc) ∧ w'.cell? ⟨b, 6, none⟩ = some (.int .i64 x.version) ∧ w'.cell? ⟨b, 7, none⟩ = some (.int .i64 x.lease) ∧ w'.cell? ⟨b, 8, none⟩ = some (.int .i64 x.worked) ∧ w'.cell? ⟨b, 9, none⟩ = some (.int .i64 x.to_)))) (by kernel_rfl) (by exact keep S3.drew) (fun hHeld => ?_)
      change wpAnyH _ _ _ _ _ 11 (Array.replicate 11 false) _ _
      refine wpAnyH_take (i := 0) (v := ?v14) (ops_at rfl) (by kernel_rfl) (by kernel_rfl) (by kernel_rfl) (fun _ _ _ h => h) (Or.inl ⟨by rfl, ?hy14⟩) (by assumption) ?rest14
      case hy14 => intro w' hSw; (try dsimp only at hSw); go_simp; try with_reducible rfl
      try simp only [Act.put, List.setIfInBounds_toArray, List.set_cons_zero, List.set_cons_succ]
      refine wpAnyH_take (i := 1) (v := ?v15) (ops_at rfl) (by kernel_rfl) (by kernel_rfl) (by kernel_rfl) (fun _ _ _ h => h) (Or.inl ⟨by rfl, ?hy15⟩) (by assumption) ?rest15
      case hy15 => intro w' hSw; (try dsimp only at hSw); go_simp; try with_reducible rfl
      try simp only [Act.put, List.setIfInBounds_toArray, List.set_cons_zero, List.set_cons_succ]
      refine wpAnyH_take (i := 3) (v := ?v16) (ops_at rfl) (by kernel_rfl) (by kernel_rfl) (by kernel_rfl) (fun _ _ _ h => h) (Or.inl ⟨by rfl, ?hy16⟩) (by assumption) ?rest16
      case hy16 => intro w' hSw; (try dsimp only at hSw); go_simp; try with_reducible rfl
      try simp only [Act.put, List.setIfInBounds_toArray, List.set_cons_zero, List.set_cons_succ]
      refine wpAnyH_take (i := 4) (v := ?v17) (ops_at rfl) (by kernel_rfl) (by kernel_rfl) (by kernel_rfl) (fun _ _ _ h => h) (Or.inl ⟨by rfl, ?hy17⟩) (by assumption) ?rest17
      case hy17 => intro w' hSw; (try dsimp only at hSw); go_simp; try with_reducible rfl
      try simp only [Act.put, List.setIfInBounds_toArray, List.set_cons_zero, List.set_cons_succ]
      refine wpAnyH_take (i := 7) (v := ?v18) (ops_at rfl) (by kernel_rfl) (by kernel_rfl) (by kernel_rfl) (fun _ _ _ h => h) (Or.inl ⟨by rfl, ?hy18⟩) (by assumption) ?rest18
      case hy18 => intro w' hSw; (try dsimp only at hSw); go_simp; try with_reducible rfl
      try simp only [Act.put, List.setIfInBounds_toArray, List.set_cons_zero, List.set_cons_succ]
      refine wpAnyH_ready (rs := [2, 8]) (by kernel_rfl) (by simp) ?_
      refine AllReadyH.cons (ops_at rfl) (fun K hK => ?_) (AllReadyH.cons (ops_at rfl) (fun K hK => ?_) AllReadyH.nil)
      · go_simp
        refine (wtOf x _).mono ?_
        rintro e w4 ⟨rfl, hb4⟩
        have S4 := S3.drew.grow hb4
        clear hb4
        refine hK.out _ _ (by exact keep S4) (fun hHeld => ?_)
        clear hK K
        try simp only [Act.put, List.setIfInBounds_toArray, List.set_cons_zero, List.set_cons_succ]
        refine wpAnyH_ready (rs := [5, 8]) (by kernel_rfl) (by simp) ?_
        refine AllReadyH.cons (ops_at rfl) (fun K hK => ?_) (AllReadyH.cons (ops_at rfl) (fun K hK => ?_) AllReadyH.nil)
        · go_simp
          refine (wtOf x _).mono ?_
          rintro e w5 ⟨rfl, hb5⟩
          have S5 := S4.grow hb5
          clear hb5
          have hlk := lookG (S5.obj 1 rfl) x.job x.inc
          rw [Hv.out] at hlk
          refine hK.out _ _ (by exact keep S5) (fun hHeld => ?_)
          clear hK K
          try simp only [Act.put, List.setIfInBounds_toArray, List.set_cons_zero, List.set_cons_succ]
          refine wpAnyH_ready (rs := [6, 8]) (by kernel_rfl) (by simp) ?_
          refine AllReadyH.cons (ops_at rfl) (fun K hK => ?_) (AllReadyH.cons (ops_at rfl) (fun K hK => ?_) AllReadyH.nil)
          · go_simp
            clear hlk
            refine hK.out _ _ (by exact keep S5) (fun hHeld => ?_)
            clear hK K
            try simp only [Act.put, List.setIfInBounds_toArray, List.set_cons_zero, List.set_cons_succ]
            refine wpAnyH_ready (rs := [8]) (by kernel_rfl) (by simp) ?_
            refine AllReadyH.cons (ops_at rfl) (fun K hK => ?_) AllReadyH.nil
            go_simp
            have S6 : St w _ (cellsT w5.heap.size 31 x.cs :: cellsT b 31 x.cs :: gangL gm G) := (newAtG S5 31 #[.bool x.up, .int .i64 x.term, .int .i64 x.gen, .int .i64 x.mode, .int .i64 x.job, .int .i64 x.inc, .int .i64 x.version, .int .i64 x.lease, .int .i64 x.worked, .int .i64 x.to_] _ rfl).rot
            obtain ⟨gB, hgB⟩ : ∃ gB, w5.heap.size = gB := ⟨_, rfl⟩
            obtain ⟨wB, hwB⟩ : ∃ wB, w5.alloc (.cells #[.bool x.up, .int .i64 x.term, .int .i64 x.gen, .int .i64 x.mode, .int .i64 x.job, .int .i64 x.inc, .int .i64 x.version, .int .i64 x.lease, .int .i64 x.worked, .int .i64 x.to_] 31) = wB := ⟨_, rfl⟩
            rw [hgB, hwB] at S6
            rw [hgB, hwB]
            clear hgB hwB
            refine hK.out _ _ (by exact keep2 S6) (fun hHeld => ?_)
            clear hK K
            try simp only [Act.put, List.setIfInBounds_toArray, List.set_cons_zero, List.set_cons_succ]
            refine wpAnyH_ready (rs := [9]) (by kernel_rfl) (by simp) ?_
            refine AllReadyH.cons (ops_at rfl) (fun K hK => ?_) AllReadyH.nil
            refine step_app (by rfl) (.tmp 21) (.tmp 23) eAG.T eAG.T eAG.T rfl rfl _ _ rfl rfl (S6.appG eAGok (q + 3) (by exact hown2.out) (some ⟨gB, 0, none⟩) [x] 1 1 rfl (S6.atOneG eAGok 0 rfl) N (by rw [HM.out]; exact hNM) (by show _ * 80 ≤ _; omega) (by unfold maxLen; omega)) ?_
            rintro v7 w7 ⟨⟨a7, c7, rfl⟩, S7⟩
            have S7' : St w w7 (cellsT gB 31 x.cs :: cellsT b 31 x.cs :: objT gm (.map (gEs 0 G).toArray G.length) :: (G.set q ⟨x.job, x.inc, a7, c7, y.L ++ [x]⟩).map GE.own) := by
              rw [List.map_set]
              show St w w7 (_ :: _ :: _ :: (G.map GE.own).set q (ownT eAG (.slice a7 (y.L ++ [x]).length c7) (y.L ++ [x])))
              rw [HN2.out]
              exact S7
            have hput := putG (S7'.obj 2 rfl) x.job x.inc a7 c7 (y.L ++ [x])
            rw [HP.out, HN2.out] at hput
            obtain ⟨ob, hob⟩ : ∃ ob, Obj.map (gEs 0 (G.set q ⟨x.job, x.inc, a7, c7, y.L ++ [x]⟩)).toArray (G.set q (⟨x.job, x.inc, a7, c7, y.L ++ [x]⟩ : GE)).length = ob := ⟨_, rfl⟩
            rw [hob] at hput
            have HOB := hid hob
            clear hob
            have S8 : St w _ (cellsT gB 31 x.cs :: cellsT b 31 x.cs :: objT gm ob :: (G.set q ⟨x.job, x.inc, a7, c7, y.L ++ [x]⟩).map GE.own) := S7'.putObj 2 rfl ob
            clear S7
            refine hK.out _ _ (by exact keep2 S7') (fun hHeld => ?_)
            clear hK K
            try simp only [Act.put, List.setIfInBounds_toArray, List.set_cons_zero, List.set_cons_succ]
            refine wpAnyH_ready (rs := [10]) (by kernel_rfl) (by simp) ?_
            refine AllReadyH.cons (ops_at rfl) (fun K hK => ?_) AllReadyH.nil
            go_simp
            refine hK.out _ _ (by exact keep2 S8) (fun hHeld => ?_)
            clear hK K
            try simp only [Act.put, List.setIfInBounds_toArray, List.set_cons_zero, List.set_cons_succ]
            refine wpAnyH_done (by kernel_rfl) ?_ _
            have S9 : St w (putO w7 gm ob) (gangL gm (G.set q ⟨x.job, x.inc, a7, c7, y.L ++ [x]⟩)) := by
              unfold gangL
              rw [HOB.out]
              exact S8.tail.tail
            have HI3 := hid (HF.out a7 c7 (y.L ++ [x]) (by simp))
            clear S7' S8 S6 hput
            go_wp2
            go_roundw
            case rel => exact ⟨k + 1, _, by omega, by go_num, HI3.out, by simp; omega, S9⟩
            case measure => simp [intOf]; omega
          · go_simp
            have S6 : St w _ (cellsT w5.heap.size 31 x.cs :: cellsT b 31 x.cs :: gangL gm G) := (newAtG S5 31 #[.bool x.up, .int .i64 x.term, .int .i64 x.gen, .int .i64 x.mode, .int .i64 x.job, .int .i64 x.inc, .int .i64 x.version, .int .i64 x.lease, .int .i64 x.worked, .int .i64 x.to_] _ rfl).rot
            obtain ⟨gB, hgB⟩ : ∃ gB, w5.heap.size = gB := ⟨_, rfl⟩
            obtain ⟨wB, hwB⟩ : ∃ wB, w5.alloc (.cells #[.bool x.up, .int .i64 x.term, .int .i64 x.gen, .int .i64 x.mode, .int .i64 x.job, .int .i64 x.inc, .int .i64 x.version, .int .i64 x.lease, .int .i64 x.worked, .int .i64 x.to_] 31) = wB := ⟨_, rfl⟩
            rw [hgB, hwB] at S6
            rw [hgB, hwB]
            clear hgB hwB
            refine hK.out _ _ (by exact keep2 S6) (fun hHeld => ?_)
            clear hK K
            try simp only [Act.put, List.setIfInBounds_toArray, List.set_cons_zero, List.set_cons_succ]
            have hlk := lookG (S6.obj 2 rfl) x.job x.inc
            rw [Hv.out] at hlk
            refine wpAnyH_ready (rs := [6]) (by kernel_rfl) (by simp) ?_
            refine AllReadyH.cons (ops_at rfl) (fun K hK => ?_) AllReadyH.nil
            go_simp
            refine hK.out _ _ (by exact keep2 S6) (fun hHeld => ?_)
            clear hK K
            try simp only [Act.put, List.setIfInBounds_toArray, List.set_cons_zero, List.set_cons_succ]
            clear hlk
            refine wpAnyH_ready (rs := [9]) (by kernel_rfl) (by simp) ?_
            refine AllReadyH.cons (ops_at rfl) (fun K hK => ?_) AllReadyH.nil
            refine step_app (by rfl) (.tmp 21) (.tmp 23) eAG.T eAG.T eAG.T rfl rfl _ _ rfl rfl (S6.appG eAGok (q + 3) (by exact hown2.out) (some ⟨gB, 0, none⟩) [x] 1 1 rfl (S6.atOneG eAGok 0 rfl) N (by rw [HM.out]; exact hNM) (by show _ * 80 ≤ _; omega) (by unfold maxLen; omega)) ?_
            rintro v7 w7 ⟨⟨a7, c7, rfl⟩, S7⟩
            have S7' : St w w7 (cellsT gB 31 x.cs :: cellsT b 31 x.cs :: objT gm (.map (gEs 0 G).toArray G.length) :: (G.set q ⟨x.job, x.inc, a7, c7, y.L ++ [x]⟩).map GE.own) := by
              rw [List.map_set]
              show St w w7 (_ :: _ :: _ :: (G.map GE.own).set q (ownT eAG (.slice a7 (y.L ++ [x]).length c7) (y.L ++ [x])))
              rw [HN2.out]
              exact S7
            have hput := putG (S7'.obj 2 rfl) x.job x.inc a7 c7 (y.L ++ [x])
            rw [HP.out, HN2.out] at hput
            obtain ⟨ob, hob⟩ : ∃ ob, Obj.map (gEs 0 (G.set q ⟨x.job, x.inc, a7, c7, y.L ++ [x]⟩)).toArray (G.set q (⟨x.job, x.inc, a7, c7, y.L ++ [x]⟩ : GE)).length = ob := ⟨_, rfl⟩
            rw [hob] at hput
            have HOB := hid hob
            clear hob
            have S8 : St w _ (cellsT gB 31 x.cs :: cellsT b 31 x.cs :: objT gm ob :: (G.set q ⟨x.job, x.inc, a7, c7, y.L ++ [x]⟩).map GE.own) := S7'.putObj 2 rfl ob
            clear S7
            refine hK.out _ _ (by exact keep2 S7') (fun hHeld => ?_)
            clear hK K
            try simp only [Act.put, List.setIfInBounds_toArray, List.set_cons_zero, List.set_cons_succ]
            refine wpAnyH_ready (rs := [10]) (by kernel_rfl) (by simp) ?_
            refine AllReadyH.cons (ops_at rfl) (fun K hK => ?_) AllReadyH.nil
            go_simp
            refine hK.out _ _ (by exact keep2 S8) (fun hHeld => ?_)
            clear hK K
            try simp only [Act.put, List.setIfInBounds_toArray, List.set_cons_zero, List.set_cons_succ]
            refine wpAnyH_done (by kernel_rfl) ?_ _
            have S9 : St w (putO w7 gm ob) (gangL gm (G.set q ⟨x.job, x.inc, a7, c7, y.L ++ [x]⟩)) := by
              unfold gangL
              rw [HOB.out]
              exact S8.tail.tail
            have HI3 := hid (HF.out a7 c7 (y.L ++ [x]) (by simp))
            clear S7' S8 S6 hput
            go_wp2
            go_roundw
            case rel => exact ⟨k + 1, _, by omega, by go_num, HI3.out, by simp; omega, S9⟩
            case measure => simp [intOf]; omega
        · go_simp
          have S5 : St w _ (cellsT w4.heap.size 31 x.cs :: cellsT b 31 x.cs :: gangL gm G) := (newAtG S4 31 #[.bool x.up, .int .i64 x.term, .int .i64 x.gen, .int .i64 x.mode, .int .i64 x.job, .int .i64 x.inc, .int .i64 x.version, .int .i64 x.lease, .int .i64 x.worked, .int .i64 x.to_] _ rfl).rot
          obtain ⟨gB, hgB⟩ : ∃ gB, w4.heap.size = gB := ⟨_, rfl⟩
          obtain ⟨wB, hwB⟩ : ∃ wB, w4.alloc (.cells #[.bool x.up, .int .i64 x.term, .int .i64 x.gen, .int .i64 x.mode, .int .i64 x.job, .int .i64 x.inc, .int .i64 x.version, .int .i64 x.lease, .int .i64 x.worked, .int .i64 x.to_] 31) = wB := ⟨_, rfl⟩
          rw [hgB, hwB] at S5
          rw [hgB, hwB]
          clear hgB hwB
          refine hK.out _ _ (by exact keep2 S5) (fun hHeld => ?_)
          clear hK K
          try simp only [Act.put, List.setIfInBounds_toArray, List.set_cons_zero, List.set_cons_succ]
          refine wpAnyH_ready (rs := [5]) (by kernel_rfl) (by simp) ?_
          refine AllReadyH.cons (ops_at rfl) (fun K hK => ?_) AllReadyH.nil
          go_simp
          refine (wtOf x _).mono ?_
          rintro e w6 ⟨rfl, hb6⟩
          have S6 := S5.grow hb6
          clear hb6
          have hlk := lookG (S6.obj 2 rfl) x.job x.inc
          rw [Hv.out] at hlk
          refine hK.out _ _ (by exact keep2 S6) (fun hHeld => ?_)
          clear hK K
          try simp only [Act.put, List.setIfInBounds_toArray, List.set_cons_zero, List.set_cons_succ]
          refine wpAnyH_ready (rs := [6]) (by kernel_rfl) (by simp) ?_
          refine AllReadyH.cons (ops_at rfl) (fun K hK => ?_) AllReadyH.nil
          go_simp
          refine hK.out _ _ (by exact keep2 S6) (fun hHeld => ?_)
          clear hK K
          try simp only [Act.put, List.setIfInBounds_toArray, List.set_cons_zero, List.set_cons_succ]
          clear hlk
          refine wpAnyH_ready (rs := [9]) (by kernel_rfl) (by simp) ?_
          refine AllReadyH.cons (ops_at rfl) (fun K hK => ?_) AllReadyH.nil
          refine step_app (by rfl) (.tmp 21) (.tmp 23) eAG.T eAG.T eAG.T rfl rfl _ _ rfl rfl (S6.appG eAGok (q + 3) (by exact hown2.out) (some ⟨gB, 0, none⟩) [x] 1 1 rfl (S6.atOneG eAGok 0 rfl) N (by rw [HM.out]; exact hNM) (by show _ * 80 ≤ _; omega) (by unfold maxLen; omega)) ?_
          rintro v7 w7 ⟨⟨a7, c7, rfl⟩, S7⟩
          have S7' : St w w7 (cellsT gB 31 x.cs :: cellsT b 31 x.cs :: objT gm (.map (gEs 0 G).toArray G.length) :: (G.set q ⟨x.job, x.inc, a7, c7, y.L ++ [x]⟩).map GE.own) := by
            rw [List.map_set]
            show St w w7 (_ :: _ :: _ :: (G.map GE.own).set q (ownT eAG (.slice a7 (y.L ++ [x]).length c7) (y.L ++ [x])))
            rw [HN2.out]
            exact S7
          have hput := putG (S7'.obj 2 rfl) x.job x.inc a7 c7 (y.L ++ [x])
          rw [HP.out, HN2.out] at hput
          obtain ⟨ob, hob⟩ : ∃ ob, Obj.map (gEs 0 (G.set q ⟨x.job, x.inc, a7, c7, y.L ++ [x]⟩)).toArray (G.set q (⟨x.job, x.inc, a7, c7, y.L ++ [x]⟩ : GE)).length = ob := ⟨_, rfl⟩
          rw [hob] at hput
          have HOB := hid hob
          clear hob
          have S8 : St w _ (cellsT gB 31 x.cs :: cellsT b 31 x.cs :: objT gm ob :: (G.set q ⟨x.job, x.inc, a7, c7, y.L ++ [x]⟩).map GE.own) := S7'.putObj 2 rfl ob
          clear S7
          refine hK.out _ _ (by exact keep2 S7') (fun hHeld => ?_)
          clear hK K
          try simp only [Act.put, List.setIfInBounds_toArray, List.set_cons_zero, List.set_cons_succ]
          refine wpAnyH_ready (rs := [10]) (by kernel_rfl) (by simp) ?_
          refine AllReadyH.cons (ops_at rfl) (fun K hK => ?_) AllReadyH.nil
          go_simp
          refine hK.out _ _ (by exact keep2 S8) (fun hHeld => ?_)
          clear hK K
          try simp only [Act.put, List.setIfInBounds_toArray, List.set_cons_zero, List.set_cons_succ]
          refine wpAnyH_done (by kernel_rfl) ?_ _
          have S9 : St w (putO w7 gm ob) (gangL gm (G.set q ⟨x.job, x.inc, a7, c7, y.L ++ [x]⟩)) := by
            unfold gangL
            rw [HOB.out]
            exact S8.tail.tail
          have HI3 := hid (HF.out a7 c7 (y.L ++ [x]) (by simp))
          clear S7' S8 S6 hput
          go_wp2
          go_roundw
          case rel => exact ⟨k + 1, _, by omega, by go_num, HI3.out, by simp; omega, S9⟩
          case measure => simp [intOf]; omega
      · go_simp
        have S4 : St w (w3.alloc (.cells #[.bool x.up, .int .i64 x.term, .int .i64 x.gen, .int .i64 x.mode, .int .i64 x.job, .int .i64 x.inc, .int .i64 x.version, .int .i64 x.lease, .int .i64 x.worked, .int .i64 x.to_] 31)).drew (cellsT w3.heap.size 31 x.cs :: cellsT b 31 x.cs :: gangL gm G) := (newAtG S3 31 #[.bool x.up, .int .i64 x.term, .int .i64 x.gen, .int .i64 x.mode, .int .i64 x.job, .int .i64 x.inc, .int .i64 x.version, .int .i64 x.lease, .int .i64 x.worked, .int .i64 x.to_] _ rfl).rot.drew
        obtain ⟨gB, hgB⟩ : ∃ gB, w3.heap.size = gB := ⟨_, rfl⟩
        obtain ⟨wB, hwB⟩ : ∃ wB, (w3.alloc (.cells #[.bool x.up, .int .i64 x.term, .int .i64 x.gen, .int .i64 x.mode, .int .i64 x.job, .int .i64 x.inc, .int .i64 x.version, .int .i64 x.lease, .int .i64 x.worked, .int .i64 x.to_] 31)).drew = wB := ⟨_, rfl⟩
        rw [hgB, hwB] at S4
        rw [hgB, hwB]
        clear hgB hwB
        refine hK.out _ _ (by exact keep2 S4) (fun hHeld => ?_)
        clear hK K
        try simp only [Act.put, List.setIfInBounds_toArray, List.set_cons_zero, List.set_cons_succ]
        refine wpAnyH_ready (rs := [2]) (by kernel_rfl) (by simp) ?_
        refine AllReadyH.cons (ops_at rfl) (fun K hK => ?_) AllReadyH.nil
        go_simp
        refine (wtOf x _).mono ?_
        rintro e w5 ⟨rfl, hb5⟩
        have S5 := S4.grow hb5
        clear hb5
        refine hK.out _ _ (by exact keep2 S5) (fun hHeld => ?_)
        clear hK K
        try simp only [Act.put, List.setIfInBounds_toArray, List.set_cons_zero, List.set_cons_succ]
        refine wpAnyH_ready (rs := [5]) (by kernel_rfl) (by simp) ?_
        refine AllReadyH.cons (ops_at rfl) (fun K hK => ?_) AllReadyH.nil
        go_simp
        refine (wtOf x _).mono ?_
        rintro e w6 ⟨rfl, hb6⟩
        have S6 := S5.grow hb6
        clear hb6
        have hlk := lookG (S6.obj 2 rfl) x.job x.inc
        rw [Hv.out] at hlk
        refine hK.out _ _ (by exact keep2 S6) (fun hHeld => ?_)
        clear hK K
        try simp only [Act.put, List.setIfInBounds_toArray, List.set_cons_zero, List.set_cons_succ]
        refine wpAnyH_ready (rs := [6]) (by kernel_rfl) (by simp) ?_
        refine AllReadyH.cons (ops_at rfl) (fun K hK => ?_) AllReadyH.nil
        go_simp
        refine hK.out _ _ (by exact keep2 S6) (fun hHeld => ?_)
        clear hK K
        try simp only [Act.put, List.setIfInBounds_toArray, List.set_cons_zero, List.set_cons_succ]
        clear hlk
        refine wpAnyH_ready (rs := [9]) (by kernel_rfl) (by simp) ?_
        refine AllReadyH.cons (ops_at rfl) (fun K hK => ?_) AllReadyH.nil
        refine step_app (by rfl) (.tmp 21) (.tmp 23) eAG.T eAG.T eAG.T rfl rfl _ _ rfl rfl (S6.appG eAGok (q + 3) (by exact hown2.out) (some ⟨gB, 0, none⟩) [x] 1 1 rfl (S6.atOneG eAGok 0 rfl) N (by rw [HM.out]; exact hNM) (by show _ * 80 ≤ _; omega) (by unfold maxLen; omega)) ?_
        rintro v7 w7 ⟨⟨a7, c7, rfl⟩, S7⟩
        have S7' : St w w7 (cellsT gB 31 x.cs :: cellsT b 31 x.cs :: objT gm (.map (gEs 0 G).toArray G.length) :: (G.set q ⟨x.job, x.inc, a7, c7, y.L ++ [x]⟩).map GE.own) := by
          rw [List.map_set]
          show St w w7 (_ :: _ :: _ :: (G.map GE.own).set q (ownT eAG (.slice a7 (y.L ++ [x]).length c7) (y.L ++ [x])))
          rw [HN2.out]
          exact S7
        have hput := putG (S7'.obj 2 rfl) x.job x.inc a7 c7 (y.L ++ [x])
        rw [HP.out, HN2.out] at hput
        obtain ⟨ob, hob⟩ : ∃ ob, Obj.map (gEs 0 (G.set q ⟨x.job, x.inc, a7, c7, y.L ++ [x]⟩)).toArray (G.set q (⟨x.job, x.inc, a7, c7, y.L ++ [x]⟩ : GE)).length = ob := ⟨_, rfl⟩
        rw [hob] at hput
        have HOB := hid hob
        clear hob
        have S8 : St w _ (cellsT gB 31 x.cs :: cellsT b 31 x.cs :: objT gm ob :: (G.set q ⟨x.job, x.inc, a7, c7, y.L ++ [x]⟩).map GE.own) := S7'.putObj 2 rfl ob
        clear S7
        refine hK.out _ _ (by exact keep2 S7') (fun hHeld => ?_)
        clear hK K
        try simp only [Act.put, List.setIfInBounds_toArray, List.set_cons_zero, List.set_cons_succ]
        refine wpAnyH_ready (rs := [10]) (by kernel_rfl) (by simp) ?_
        refine AllReadyH.cons (ops_at rfl) (fun K hK => ?_) AllReadyH.nil
        go_simp
        refine hK.out _ _ (by exact keep2 S8) (fun hHeld => ?_)
        clear hK K
        try simp only [Act.put, List.setIfInBounds_toArray, List.set_cons_zero, List.set_cons_succ]
        refine wpAnyH_done (by kernel_rfl) ?_ _
        have S9 : St w (putO w7 gm ob) (gangL gm (G.set q ⟨x.job, x.inc, a7, c7, y.L ++ [x]⟩)) := by
          unfold gangL
          rw [HOB.out]
          exact S8.tail.tail
        have HI3 := hid (HF.out a7 c7 (y.L ++ [x]) (by simp))
        clear S7' S8 S6 hput
        go_wp2
        go_roundw
        case rel => exact ⟨k + 1, _, by omega, by go_num, HI3.out, by simp; omega, S9⟩
        case measure => simp [intOf]; omega
end Go.Proofs.Ytilobmefomoemaa
