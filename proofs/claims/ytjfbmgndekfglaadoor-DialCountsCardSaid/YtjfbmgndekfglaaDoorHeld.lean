/- A region that draws its order: what is held need not hold behind its last operation (a store of what the loads read). -/
import Derived.Test.YtjfbmgndekfglaaDoorGround
namespace Go.Proofs.YtjfbmgndekfglaaDoor
set_option linter.unusedVariables false
set_option linter.unusedSimpArgs false
section
variable {P : Program} {ops : Array Oper} {Q : Exit → Act → World → Prop} {md : Region.Mode} {S : World → Prop} {z : Nat}

/-- In whatever order; `S` holds as long as `z` has not come up. -/
def wpAnyZ (P : Program) (md : Region.Mode) (ops : Array Oper) (Q : Exit → Act → World → Prop) (S : World → Prop) (z : Nat) : Nat → Array Bool → Act → World → Prop
  | 0, l, a, w => Region.ready md ops l = [] ∧ Q .normal a w
  | n + 1, l, a, w => (Region.ready md ops l = [] → Q .normal a w) ∧ ∀ i ∈ Region.ready md ops l, wpOp P ops Q i (fun b v => ((l.setIfInBounds i true).getD z false = false → S v) ∧ wpAnyZ P md ops Q S z n (l.setIfInBounds i true) b v) a w
theorem wpAnyZ_any : ∀ (n : Nat) (l : Array Bool) (a : Act) (w : World), wpAnyZ P md ops Q S z n l a w → wpAny P md ops Q n l a w
  | 0, _, _, _, h => h
  | n + 1, _, _, _, h => ⟨h.1, fun i hi => wpOp_mono (fun _ _ k => wpAnyZ_any n _ _ _ k.2) (h.2 i hi)⟩
/-- What was taken, with all that it waits for. -/
def shutB (md : Region.Mode) (ops : Array Oper) (l : Array Bool) : Bool :=
  (List.range ops.size).all fun j => !(l.getD j false) || (match ops[j]? with | none => true | some o => o.after.all fun e => !(Region.binds md e) || l.getD e.on false)
def IsShut (md : Region.Mode) (ops : Array Oper) (l : Array Bool) : Prop := ∀ j o, ops[j]? = some o → l.getD j false = true → ∀ e ∈ o.after, Region.binds md e = true → l.getD e.on false = true
theorem shutB_is {l : Array Bool} (h : shutB md ops l = true) : IsShut md ops l := by
  intro j o ho hj e he hb
  unfold shutB at h
  rw [List.all_eq_true] at h
  have h1 := h j (List.mem_range.2 (Array.getElem?_eq_some_iff.1 ho).1)
  rw [hj, ho] at h1
  simp only [Bool.not_true, Bool.false_or, Array.all_eq_true_iff_forall_mem] at h1
  have h2 := h1 e he
  rw [hb] at h2
  simpa using h2
/-- Each waits for the one ahead of it. -/
def chainB (md : Region.Mode) (ops : Array Oper) (i : Nat) : List Nat → Bool
  | [] => true
  | j :: l => (match ops[j]? with | none => false | some o => o.after.toList.any fun e => Region.binds md e && e.on == i) && chainB md ops j l
theorem chain_listed {l : Array Bool} (hs : IsShut md ops l) : ∀ (p : List Nat) (i : Nat), chainB md ops i p = true → p.getLast? = some z → (z ∈ Region.ready md ops l ∨ l.getD z false = true) → l.getD i false = true
  | [], i, _, h, _ => by simp at h
  | j :: p, i, hc, hl, hz => by
    rw [chainB, Bool.and_eq_true] at hc
    obtain ⟨h1, h2⟩ := hc
    cases ho : ops[j]? with
    | none => rw [ho] at h1; simp at h1
    | some o =>
      rw [ho] at h1
      simp only [List.any_eq_true, Bool.and_eq_true, beq_iff_eq] at h1
      obtain ⟨e, he, hb, rfl⟩ := h1
      have he : e ∈ o.after := by simpa using he
      cases p with
      | nil =>
        simp at hl; subst hl
        rcases hz with hz | hz
        · obtain ⟨_, o', ho', hall⟩ := mem_ready.1 hz
          rw [ho] at ho'; cases ho'
          exact hall e he hb
        · exact hs _ o ho hz e he hb
      | cons k p =>
        have := chain_listed hs (k :: p) j h2 (by simpa using hl) hz
        exact hs j o ho this e he hb
theorem IsShut.set {l : Array Bool} (h : IsShut md ops l) {i : Nat} (hi : i ∈ Region.ready md ops l) : IsShut md ops (l.setIfInBounds i true) := by
  intro j o ho hj e he hb
  by_cases hji : i = j
  · subst hji
    obtain ⟨_, o', ho', hall⟩ := mem_ready.1 hi
    rw [ho] at ho'; cases ho'
    exact getD_set_true (hall e he hb)
  · rw [getD_set_ne false hji] at hj
    exact getD_set_true (h j o ho hj e he hb)
theorem unlisted {l : Array Bool} {i : Nat} (h : i ∈ Region.ready md ops l) : l.getD i false ≠ true := by
  have hun := (mem_ready.1 h).1
  intro h
  rcases Nat.lt_or_ge i l.size with q | q
  · simp [q] at h hun; rw [hun] at h; cases h
  · simp [Array.getElem?_eq_none q] at h
/-- Number `i` is taken first. `S'` is what its value hangs on: `S`, where `z` waits for it, or nothing. -/
theorem wpAnyZ_first {S' : World → Prop} {i : Nat} {oi : Oper} {v : Value} (hi : ops[i]? = some oi) (hsel : ∀ (j : Nat) (o : Oper) cs b, ops[j]? = some o → o.op ≠ .select cs b)
    (hQ : ∀ c a w, Q (.panic c) (a.put oi.dst v) w → Q (.panic c) a w) (hiz : i ≠ z)
    (hgo : ∀ (l : Array Bool) (j : Nat), IsShut md ops l → i ∈ Region.ready md ops l → j ∈ Region.ready md ops l → j ≠ i → ∀ w, ((l.setIfInBounds j true).getD z false = false → S w) → S' w) :
    ∀ (n : Nat) (l : Array Bool) (a : Act) (w : World), IsShut md ops l →
      (∀ j oj, ops[j]? = some oj → j ≠ i → l.getD j true = false → (∀ e ∈ oj.after, Region.binds md e = true → e.on ≠ i) → oi.apart ops oj = true) →
      i ∈ Region.ready md ops l → YieldsIf P ops S' oi v a → S' w → (l.getD z false = false → S w) →
      wpAnyZ P md ops Q S z n (l.setIfInBounds i true) (a.put oi.dst v) w → wpAnyZ P md ops Q S z (n + 1) l a w := by
  intro n
  induction n with
  | zero =>
    intro l a w hs hfr hr hy hS' hS H
    refine ⟨fun h => absurd hr (by rw [h]; simp), fun j hj => ?_⟩
    by_cases hji : j = i
    · subst hji; exact hy.wpOp hi hS' ⟨fun h => hS (by rwa [getD_set_ne false hiz] at h), H⟩
    · exact absurd (ready_mono hj hji) (by rw [H.1]; simp)
  | succ n ih =>
    intro l a w hs hfr hr hy hS' hS H
    refine ⟨fun h => absurd hr (by rw [h]; simp), fun j hj => ?_⟩
    by_cases hji : j = i
    · subst hji; exact hy.wpOp hi hS' ⟨fun h => hS (by rwa [getD_set_ne false hiz] at h), H⟩
    obtain ⟨hju, oj, hoj, hall⟩ := mem_ready.1 hj
    have hno : ∀ e ∈ oj.after, Region.binds md e = true → e.on ≠ i := fun e he hb q => unlisted hr (q ▸ hall e he hb)
    have hstep := wpOp_putIf hoj (hfr j oj hoj hji hju hno) (fun cs b => hsel i oi cs b hi) (fun cs b => hsel j oj cs b hoj) hQ hy (H.2 j (ready_mono hj hji))
    have hS2 : ∀ u, ((((l.setIfInBounds i true).setIfInBounds j true).getD z false = false) → S u) → ((l.setIfInBounds j true).getD z false = false → S u) := by
      intro u h hz
      refine h ?_
      rw [Array.setIfInBounds_comm _ _ (Ne.symm hji), getD_set_ne false hiz]; exact hz
    refine wpOp_mono (fun b u k => ⟨hS2 u k.2.1, ?_⟩) hstep
    refine ih (l.setIfInBounds j true) b u (hs.set hj) ?_ (ready_mono hr (Ne.symm hji)) k.1 (hgo l j hs hr hj hji u (hS2 u k.2.1)) (hS2 u k.2.1) ?_
    · intro m om hm hmi hmu hmn
      refine hfr m om hm hmi ?_ hmn
      by_cases q : j = m
      · subst q; exact hju
      · rwa [getD_set_ne true q] at hmu
    · rw [Array.setIfInBounds_comm _ _ hji]
      exact k.2.2
theorem wpAnyZ_take {i : Nat} {oi : Oper} {v : Value} {n : Nat} {l : Array Bool} {a : Act} {w : World} (hi : ops[i]? = some oi)
    (hs : Region.noSelect ops = true) (hf : Region.free md ops l i = true) (hr : (Region.ready md ops l).contains i = true) (hsh : shutB md ops l = true) (p : List Nat) (hch : chainB md ops i p = true) (hlast : p.getLast? = some z)
    (hQ : ∀ c a w, Q (.panic c) (a.put oi.dst v) w → Q (.panic c) a w) (hy : YieldsIf P ops S oi v a) (hS : S w)
    (h : wpAnyZ P md ops Q S z n (l.setIfInBounds i true) (a.put oi.dst v) w) : wpAnyZ P md ops Q S z (n + 1) l a w := by
  have hir : i ∈ Region.ready md ops l := by simpa using hr
  have hiz : i ≠ z := fun e => unlisted hir (chain_listed (shutB_is hsh) p i hch hlast (.inl (e ▸ hir)))
  refine wpAnyZ_first (S' := S) hi (Region.noSelect_spec hs) hQ hiz ?_ n l a w (shutB_is hsh) (Region.free_spec hi hf) hir hy hS (fun _ => hS) h
  intro l j hs hir hj hji w hw
  refine hw ?_
  have hz : l.getD z false ≠ true := fun e => unlisted hir (chain_listed hs p i hch hlast (.inr e))
  have hjz : j ≠ z := fun e => unlisted hir (chain_listed hs p i hch hlast (.inl (e ▸ hj)))
  rw [getD_set_ne false hjz]
  simpa using hz
/-- The same of one that yields in whatever world. -/
theorem wpAnyZ_pure {i : Nat} {oi : Oper} {v : Value} {n : Nat} {l : Array Bool} {a : Act} {w : World} (hi : ops[i]? = some oi)
    (hs : Region.noSelect ops = true) (hf : Region.free md ops l i = true) (hr : (Region.ready md ops l).contains i = true) (hsh : shutB md ops l = true) (hiz : (i == z) = false)
    (hQ : ∀ c a w, Q (.panic c) (a.put oi.dst v) w → Q (.panic c) a w) (hy : YieldsIf P ops (fun _ => True) oi v a) (hS : l.getD z false = false → S w)
    (h : wpAnyZ P md ops Q S z n (l.setIfInBounds i true) (a.put oi.dst v) w) : wpAnyZ P md ops Q S z (n + 1) l a w :=
  wpAnyZ_first (S' := fun _ => True) hi (Region.noSelect_spec hs) hQ (by simpa using hiz) (fun _ _ _ _ _ _ _ _ => trivial) n l a w (shutB_is hsh) (Region.free_spec hi hf) (by simpa using hr) hy trivial hS h
/-- Number `i` alone may come up next. -/
theorem wpAnyZ_one {i : Nat} {o : Oper} {n : Nat} {l : Array Bool} {a : Act} {w : World} (hr : Region.ready md ops l = [i]) (ho : ops[i]? = some o)
    (h : ∀ K' : Act → World → Prop, Shut (∀ a w, S w → (S w → wpAnyZ P md ops Q S z n (l.setIfInBounds i true) a w) → K' a w) → if Region.wanted o (yielded ops a.tmps) = true then Oper.wp P o a w K' Q else K' (a.put o.dst undef) w) :
    wpAnyZ P md ops Q S z (n + 1) l a w := by
  refine ⟨fun h0 => (by rw [hr] at h0; cases h0), fun j hj => ?_⟩
  rw [hr, List.mem_singleton] at hj
  subst hj
  exact wpOp_step ho (fun K' hK => h K' (fun a w hS hW => hK a w ⟨fun _ => hS, hW hS⟩))
/-- From `z` on nothing is held. -/
theorem wpAnyZ_free {i : Nat} {o : Oper} {n : Nat} {l : Array Bool} {a : Act} {w : World} (hr : Region.ready md ops l = [i]) (ho : ops[i]? = some o) (hz : (l.setIfInBounds i true).getD z false = true)
    (h : ∀ K' : Act → World → Prop, Shut (∀ a w, wpAnyZ P md ops Q S z n (l.setIfInBounds i true) a w → K' a w) → if Region.wanted o (yielded ops a.tmps) = true then Oper.wp P o a w K' Q else K' (a.put o.dst undef) w) :
    wpAnyZ P md ops Q S z (n + 1) l a w := by
  refine ⟨fun h0 => (by rw [hr] at h0; cases h0), fun j hj => ?_⟩
  rw [hr, List.mem_singleton] at hj
  subst hj
  exact wpOp_step ho (fun K' hK => h K' (fun a w hW => hK a w ⟨fun h => absurd hz (by rw [h]; simp), hW⟩))
theorem wpAnyZ_done {l : Array Bool} {a : Act} {w : World} (hr : Region.ready md ops l = []) (h : Q .normal a w) : ∀ n, wpAnyZ P md ops Q S z n l a w
  | 0 => ⟨hr, h⟩
  | _ + 1 => ⟨fun _ => h, by rw [hr]; simp⟩
theorem wp_region_heldZ {id : Nat} {a : Act} {w : World} (z : Nat) (hm : P.follows .mixedOrders = true) (hS : S w.drew)
    (h : S w.drew → wpAnyZ P .any ops Q S z ops.size (Array.replicate ops.size false) a w.drew) : (Code.region id ops true).wp P Q a w :=
  wp_region_any hm (wpAnyZ_any _ _ _ _ (h hS))
end

end Go.Proofs.YtjfbmgndekfglaaDoor
