/- Structs of ints, held against each other. -/
import Derived.Test.YtjfbmgndekfglaaDoorGround
import Derived.Laws.StructEq
namespace Go.Proofs.YtjfbmgndekfglaaDoor
set_option linter.unusedVariables false
set_option linter.unusedSimpArgs false

theorem intT : Tryd.prog.underlying 3 = some (.int .i64) := by kernel_rfl
theorem part_int {xs : Array Value} {i : Nat} {c : Int} (w : World) (h : xs[i]? = some (.int .i64 c)) : (part 3 xs i).run Tryd.prog w = .ok (.int .i64 c) w := by
  unfold part
  simp [isAgg, run_underlying intT, h]
def intFs : List Field → Nat → Bool
  | [], _ => true
  | f :: fs, i => (f.name != "_") && ((f.type == 3) && ((f.offset == i) && intFs fs (i + 1)))
def vI (n : Int) : Value := .int .i64 n
theorem eqFs_ints (d : Nat) (xs ys : List Int) (w : World) : ∀ (fs : List Field) (i : Nat), intFs fs i = true → i + fs.length = xs.length → i + fs.length = ys.length →
    (Op.eqFields (d + 1) (xs.map vI).toArray (ys.map vI).toArray fs).run Tryd.prog w = .ok (decide (xs.drop i = ys.drop i)) w
  | [], i, _, h1, h2 => by
    rw [List.drop_of_length_le (by simp at h1; omega), List.drop_of_length_le (by simp at h2; omega)]
    simp [Op.eqFields]
  | f :: fs, i, hf, h1, h2 => by
    rw [intFs, Bool.and_eq_true, Bool.and_eq_true, Bool.and_eq_true] at hf
    obtain ⟨q1, q2, q3, q4⟩ := hf
    simp only [bne_iff_ne, beq_iff_eq] at q1 q2 q3
    simp only [List.length_cons] at h1 h2
    have hx : i < xs.length := by omega
    have hy : i < ys.length := by omega
    have ih := eqFs_ints d xs ys w fs (i + 1) q4 (by omega) (by omega)
    have ex : (xs.map vI).toArray[i]? = some (.int .i64 xs[i]) := by simp [hx, vI]
    have ey : (ys.map vI).toArray[i]? = some (.int .i64 ys[i]) := by simp [hy, vI]
    rw [Op.eqFields, if_pos q1, q2, q3]
    simp only [Sem.run_bind, part_int w ex, part_int w ey, Result.andThen_ok]
    rw [run_equalIn_int w d 3 .i64 .i64 _ _ intT]
    simp only [Result.andThen_ok]
    have ed : (xs.drop i = ys.drop i) ↔ (xs[i] = ys[i] ∧ xs.drop (i + 1) = ys.drop (i + 1)) := by
      rw [List.drop_eq_getElem_cons hx, List.drop_eq_getElem_cons hy]
      exact List.cons_eq_cons
    by_cases h : xs[i] = ys[i]
    · have e : (xs[i] == ys[i]) = true := by simpa using h
      rw [e]
      simp only [Bool.not_true, Bool.false_eq_true, if_false]
      rw [ih]
      congr 1
      exact decide_eq_decide.2 (by rw [ed]; exact ⟨fun h2 => ⟨h, h2⟩, fun h2 => h2.2⟩)
    · have e : (xs[i] == ys[i]) = false := by simpa using h
      rw [e, decide_eq_false (fun h2 => h (ed.1 h2).1)]
      simp
/-- Two structs of ints. -/
theorem eqInts {t : TypeId} (n : Nat) (ht : Tryd.prog.underlying t = some (.struct (Tryd.prog.fieldsOf t))) (hp : Tryd.prog.stoodInHeld t = false) (hf : intFs (Tryd.prog.fieldsOf t).toList 0 = true) (hn : (Tryd.prog.fieldsOf t).toList.length = n)
    (xs ys : List Int) (hx : xs.length = n) (hy : ys.length = n) (w : World) : (binOp .eql t (.agg (xs.map vI).toArray) (.agg (ys.map vI).toArray)).run Tryd.prog w = .ok (.bool (decide (xs = ys))) w := by
  rw [run_eql_struct, run_equalIn_agg w 9999 t _ _ ht hp, eqFs_ints 9998 xs ys w _ 0 hf (by omega) (by omega)]
  rfl
theorem neInts {t : TypeId} (n : Nat) (ht : Tryd.prog.underlying t = some (.struct (Tryd.prog.fieldsOf t))) (hp : Tryd.prog.stoodInHeld t = false) (hf : intFs (Tryd.prog.fieldsOf t).toList 0 = true) (hn : (Tryd.prog.fieldsOf t).toList.length = n)
    (xs ys : List Int) (hx : xs.length = n) (hy : ys.length = n) (w : World) : (binOp .neq t (.agg (xs.map vI).toArray) (.agg (ys.map vI).toArray)).run Tryd.prog w = .ok (.bool (!decide (xs = ys))) w := by
  rw [run_neq_struct, run_equalIn_agg w 9999 t _ _ ht hp, eqFs_ints 9998 xs ys w _ 0 hf (by omega) (by omega)]
  rfl

end Go.Proofs.YtjfbmgndekfglaaDoor
