/- Structs of ints and truths, held against each other. -/
import Derived.Test.YtjfbmgndekfglaaDoorEqs
namespace Go.Proofs.YtjfbmgndekfglaaDoor
set_option linter.unusedVariables false
set_option linter.unusedSimpArgs false
open Go.RowKit
/-- A truth or an int. -/
inductive Pr where
  | b (x : Bool)
  | i (n : Int)
  deriving DecidableEq
def Pr.v : Pr → Value
  | .b x => .bool x
  | .i n => .int .i64 n
def Pr.isI : Pr → Bool
  | .b _ => false
  | .i _ => true
theorem boolTy : Tryd.prog.underlying 4 = some .bool := by kernel_rfl
theorem part_bool {xs : Array Value} {i : Nat} {c : Bool} (w : World) (h : xs[i]? = some (.bool c)) : (part 4 xs i).run Tryd.prog w = .ok (.bool c) w := by
  unfold part
  simp [isAgg, run_underlying boolTy, h]
def mixFs : List Field → List Bool → Nat → Bool
  | [], [], _ => true
  | f :: fs, k :: ks, i => (f.name != "_") && ((if k then f.type == 3 else f.type == 4) && ((f.offset == i) && mixFs fs ks (i + 1)))
  | _, _, _ => false
theorem eqFs_mix (d : Nat) (xs ys : List Pr) (w : World) : ∀ (fs : List Field) (ks : List Bool) (i : Nat), mixFs fs ks i = true → (xs.drop i).map Pr.isI = ks → (ys.drop i).map Pr.isI = ks →
    (Op.eqFields (d + 1) (xs.map Pr.v).toArray (ys.map Pr.v).toArray fs).run Tryd.prog w = .ok (decide (xs.drop i = ys.drop i)) w
  | [], [], i, _, h1, h2 => by
    rw [List.map_eq_nil_iff] at h1 h2
    rw [h1, h2]
    simp [Op.eqFields]
  | [], _ :: _, i, h, _, _ => by simp [mixFs] at h
  | _ :: _, [], i, h, _, _ => by simp [mixFs] at h
  | f :: fs, k :: ks, i, hf, h1, h2 => by
    rw [mixFs, Bool.and_eq_true, Bool.and_eq_true, Bool.and_eq_true] at hf
    obtain ⟨q1, q2, q3, q4⟩ := hf
    simp only [bne_iff_ne, beq_iff_eq] at q1 q3
    have hx : i < xs.length := by
      have := congrArg List.length h1; simp at this; omega
    have hy : i < ys.length := by
      have := congrArg List.length h2; simp at this; omega
    rw [List.drop_eq_getElem_cons hx, List.map_cons, List.cons.injEq] at h1
    rw [List.drop_eq_getElem_cons hy, List.map_cons, List.cons.injEq] at h2
    have ih := eqFs_mix d xs ys w fs ks (i + 1) q4 h1.2 h2.2
    have ed : (xs.drop i = ys.drop i) ↔ (xs[i] = ys[i] ∧ xs.drop (i + 1) = ys.drop (i + 1)) := by
      rw [List.drop_eq_getElem_cons hx, List.drop_eq_getElem_cons hy]
      exact List.cons_eq_cons
    have ex : (xs.map Pr.v).toArray[i]? = some xs[i].v := by simp [hx]
    have ey : (ys.map Pr.v).toArray[i]? = some ys[i].v := by simp [hy]
    rw [Op.eqFields, if_pos q1, q3]
    obtain ⟨p1, p2⟩ := And.intro h1.1 h2.1
    cases hxi : xs[i] with
    | b x =>
      rw [hxi] at p1 ex ed
      have hk : k = false := p1.symm
      subst hk
      cases hyi : ys[i] with
      | i n => rw [hyi] at p2; cases p2
      | b y =>
        rw [hyi] at ey ed
        simp only [Bool.false_eq_true, if_false, beq_iff_eq] at q2
        rw [q2]
        simp only [Sem.run_bind, part_bool w ex, part_bool w ey, Result.andThen_ok]
        rw [run_equalIn_bool w d 4 _ _ boolTy]
        simp only [Result.andThen_ok]
        by_cases h : x = y
        · have e : (x == y) = true := by simpa using h
          rw [e]
          simp only [Bool.not_true, Bool.false_eq_true, if_false]
          rw [ih]
          congr 1
          exact decide_eq_decide.2 (by rw [ed]; exact ⟨fun h2 => ⟨by rw [h], h2⟩, fun h2 => h2.2⟩)
        · have e : (x == y) = false := by simpa using h
          rw [e, decide_eq_false (fun h2 => h (by have := (ed.1 h2).1; injection this))]
          simp
    | i x =>
      rw [hxi] at p1 ex ed
      have hk : k = true := p1.symm
      subst hk
      cases hyi : ys[i] with
      | b n => rw [hyi] at p2; cases p2
      | i y =>
        rw [hyi] at ey ed
        simp only [if_true, beq_iff_eq] at q2
        rw [q2]
        simp only [Sem.run_bind, part_int w ex, part_int w ey, Result.andThen_ok]
        rw [run_equalIn_int w d 3 .i64 .i64 _ _ intT]
        simp only [Result.andThen_ok]
        by_cases h : x = y
        · have e : (x == y) = true := by simpa using h
          rw [e]
          simp only [Bool.not_true, Bool.false_eq_true, if_false]
          rw [ih]
          congr 1
          exact decide_eq_decide.2 (by rw [ed]; exact ⟨fun h2 => ⟨by rw [h], h2⟩, fun h2 => h2.2⟩)
        · have e : (x == y) = false := by simpa using h
          rw [e, decide_eq_false (fun h2 => h (by have := (ed.1 h2).1; injection this))]
          simp
/-- Two structs of truths and ints. -/
theorem eqMix {t : TypeId} (ks : List Bool) (ht : Tryd.prog.underlying t = some (.struct (Tryd.prog.fieldsOf t))) (hp : Tryd.prog.stoodInHeld t = false) (hf : mixFs (Tryd.prog.fieldsOf t).toList ks 0 = true)
    (xs ys : List Pr) (hx : xs.map Pr.isI = ks) (hy : ys.map Pr.isI = ks) (w : World) : (binOp .eql t (.agg (xs.map Pr.v).toArray) (.agg (ys.map Pr.v).toArray)).run Tryd.prog w = .ok (.bool (decide (xs = ys))) w := by
  rw [run_eql_struct, run_equalIn_agg w 9999 t _ _ ht hp, eqFs_mix 9998 xs ys w _ ks 0 hf hx hy]
  rfl
theorem neMix {t : TypeId} (ks : List Bool) (ht : Tryd.prog.underlying t = some (.struct (Tryd.prog.fieldsOf t))) (hp : Tryd.prog.stoodInHeld t = false) (hf : mixFs (Tryd.prog.fieldsOf t).toList ks 0 = true)
    (xs ys : List Pr) (hx : xs.map Pr.isI = ks) (hy : ys.map Pr.isI = ks) (w : World) : (binOp .neq t (.agg (xs.map Pr.v).toArray) (.agg (ys.map Pr.v).toArray)).run Tryd.prog w = .ok (.bool (!decide (xs = ys))) w := by
  rw [run_neq_struct, run_equalIn_agg w 9999 t _ _ ht hp, eqFs_mix 9998 xs ys w _ ks 0 hf hx hy]
  rfl
end Go.Proofs.YtjfbmgndekfglaaDoor
