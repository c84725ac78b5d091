/- The agent's laws: equality of structs of ints and truths, Right, alive. The agent's laws: alive. AgentRests, AgentLease, AgentTells. AgentLease, AgentTells. Agents that come in. -/
import Derived.Test.YtiilhfmmclhflaaTakes
namespace Go.Proofs.Ytiilhfmmclhflaa
set_option linter.unusedVariables false
set_option linter.unusedSimpArgs false
open Go.RowKit
/-- A truth or an int. -/
inductive Pr where
  | b (x : Bool)
  | i (n : Int)
  deriving DecidableEq
def Pr.v : Pr → Value
  | .b x => .bool x
  | .i n => .int .i64 n
def Pr.isI : Pr → Bool
  | .b _ => false
  | .i _ => true
theorem boolTy : Try.prog.underlying 4 = some .bool := by kernel_rfl
theorem part_bool {xs : Array Value} {i : Nat} {c : Bool} (w : World) (h : xs[i]? = some (.bool c)) : (part 4 xs i).run Try.prog w = .ok (.bool c) w := by
  unfold part
  simp [isAgg, run_underlying boolTy, h]
def mixFs : List Field → List Bool → Nat → Bool
  | [], [], _ => true
  | f :: fs, k :: ks, i => (f.name != "_") && ((if k then f.type == 3 else f.type == 4) && ((f.offset == i) && mixFs fs ks (i + 1)))
  | _, _, _ => false
theorem eqFs_mix (d : Nat) (xs ys : List Pr) (w : World) : ∀ (fs : List Field) (ks : List Bool) (i : Nat), mixFs fs ks i = true → (xs.drop i).map Pr.isI = ks → (ys.drop i).map Pr.isI = ks →
    (Op.eqFields (d + 1) (xs.map Pr.v).toArray (ys.map Pr.v).toArray fs).run Try.prog w = .ok (decide (xs.drop i = ys.drop i)) w
  | [], [], i, _, h1, h2 => by
    rw [List.map_eq_nil_iff] at h1 h2
    rw [h1, h2]
    simp [Op.eqFields]
  | [], _ :: _, i, h, _, _ => by simp [mixFs] at h
  | _ :: _, [], i, h, _, _ => by simp [mixFs] at h
  | f :: fs, k :: ks, i, hf, h1, h2 => by
    rw [mixFs, Bool.and_eq_true, Bool.and_eq_true, Bool.and_eq_true] at hf
    obtain ⟨q1, q2, q3, q4⟩ := hf
    simp only [bne_iff_ne, beq_iff_eq] at q1 q3
    have hx : i < xs.length := by
      have := congrArg List.length h1; simp at this; omega
    have hy : i < ys.length := by
      have := congrArg List.length h2; simp at this; omega
    rw [List.drop_eq_getElem_cons hx, List.map_cons, List.cons.injEq] at h1
    rw [List.drop_eq_getElem_cons hy, List.map_cons, List.cons.injEq] at h2
    have ih := eqFs_mix d xs ys w fs ks (i + 1) q4 h1.2 h2.2
    have ed : (xs.drop i = ys.drop i) ↔ (xs[i] = ys[i] ∧ xs.drop (i + 1) = ys.drop (i + 1)) := by
      rw [List.drop_eq_getElem_cons hx, List.drop_eq_getElem_cons hy]
      exact List.cons_eq_cons
    have ex : (xs.map Pr.v).toArray[i]? = some xs[i].v := by simp [hx]
    have ey : (ys.map Pr.v).toArray[i]? = some ys[i].v := by simp [hy]
    rw [Op.eqFields, if_pos q1, q3]
    obtain ⟨p1, p2⟩ := And.intro h1.1 h2.1
    cases hxi : xs[i] with
    | b x =>
      rw [hxi] at p1 ex ed
      have hk : k = false := p1.symm
      subst hk
      cases hyi : ys[i] with
      | i n => rw [hyi] at p2; cases p2
      | b y =>
        rw [hyi] at ey ed
        simp only [Bool.false_eq_true, if_false, beq_iff_eq] at q2
        rw [q2]
        simp only [Sem.run_bind, part_bool w ex, part_bool w ey, Result.andThen_ok]
        rw [run_equalIn_bool w d 4 _ _ boolTy]
        simp only [Result.andThen_ok]
        by_cases h : x = y
        · have e : (x == y) = true := by simpa using h
          rw [e]
          simp only [Bool.not_true, Bool.false_eq_true, if_false]
          rw [ih]
          congr 1
          exact decide_eq_decide.2 (by rw [ed]; exact ⟨fun h2 => ⟨by rw [h], h2⟩, fun h2 => h2.2⟩)
        · have e : (x == y) = false := by simpa using h
          rw [e, decide_eq_false (fun h2 => h (by have := (ed.1 h2).1; injection this))]
          simp
    | i x =>
      rw [hxi] at p1 ex ed
      have hk : k = true := p1.symm
      subst hk
      cases hyi : ys[i] with
      | b n => rw [hyi] at p2; cases p2
      | i y =>
        rw [hyi] at ey ed
        simp only [if_true, beq_iff_eq] at q2
        rw [q2]
        simp only [Sem.run_bind, part_int w ex, part_int w ey, Result.andThen_ok]
        rw [run_equalIn_int w d 3 .i64 .i64 _ _ intT]
        simp only [Result.andThen_ok]
        by_cases h : x = y
        · have e : (x == y) = true := by simpa using h
          rw [e]
          simp only [Bool.not_true, Bool.false_eq_true, if_false]
          rw [ih]
          congr 1
          exact decide_eq_decide.2 (by rw [ed]; exact ⟨fun h2 => ⟨by rw [h], h2⟩, fun h2 => h2.2⟩)
        · have e : (x == y) = false := by simpa using h
          rw [e, decide_eq_false (fun h2 => h (by have := (ed.1 h2).1; injection this))]
          simp
/-- Two structs of truths and ints. -/
theorem eqMix {t : TypeId} (ks : List Bool) (ht : Try.prog.underlying t = some (.struct (Try.prog.fieldsOf t))) (hp : Try.prog.stoodInHeld t = false) (hf : mixFs (Try.prog.fieldsOf t).toList ks 0 = true)
    (xs ys : List Pr) (hx : xs.map Pr.isI = ks) (hy : ys.map Pr.isI = ks) (w : World) : (binOp .eql t (.agg (xs.map Pr.v).toArray) (.agg (ys.map Pr.v).toArray)).run Try.prog w = .ok (.bool (decide (xs = ys))) w := by
  rw [run_eql_struct, run_equalIn_agg w 9999 t _ _ ht hp, eqFs_mix 9998 xs ys w _ ks 0 hf hx hy]
  rfl
theorem neMix {t : TypeId} (ks : List Bool) (ht : Try.prog.underlying t = some (.struct (Try.prog.fieldsOf t))) (hp : Try.prog.stoodInHeld t = false) (hf : mixFs (Try.prog.fieldsOf t).toList ks 0 = true)
    (xs ys : List Pr) (hx : xs.map Pr.isI = ks) (hy : ys.map Pr.isI = ks) (w : World) : (binOp .neq t (.agg (xs.map Pr.v).toArray) (.agg (ys.map Pr.v).toArray)).run Try.prog w = .ok (.bool (!decide (xs = ys))) w := by
  rw [run_neq_struct, run_equalIn_agg w 9999 t _ _ ht hp, eqFs_mix 9998 xs ys w _ ks 0 hf hx hy]
  rfl
def AG.prs (a : AG) : List Pr := [.b a.up, .i a.term, .i a.gen, .i a.mode, .i a.job, .i a.inc, .i a.version, .i a.lease, .i a.worked, .i a.to_]
def AG.eq (a b : AG) : Bool := decide (a.prs = b.prs)
theorem AG.eq_iff (a b : AG) : a.eq b = true ↔ a = b := by
  unfold AG.eq
  rw [decide_eq_true_eq]
  constructor
  · intro h
    cases a; cases b
    simp only [AG.prs, List.cons.injEq, Pr.b.injEq, Pr.i.injEq] at h
    simp [h]
  · rintro rfl; rfl
theorem AG.eq_self (a : AG) : a.eq a = true := (AG.eq_iff a a).2 rfl
theorem eqAG (a b : AG) (w : World) : (binOp .eql 51 (.agg #[.bool a.up, .int .i64 a.term, .int .i64 a.gen, .int .i64 a.mode, .int .i64 a.job, .int .i64 a.inc, .int .i64 a.version, .int .i64 a.lease, .int .i64 a.worked, .int .i64 a.to_]) (.agg #[.bool b.up, .int .i64 b.term, .int .i64 b.gen, .int .i64 b.mode, .int .i64 b.job, .int .i64 b.inc, .int .i64 b.version, .int .i64 b.lease, .int .i64 b.worked, .int .i64 b.to_])).run Try.prog w = .ok (.bool (a.eq b)) w :=
  eqMix [false, true, true, true, true, true, true, true, true, true] (by kernel_rfl) (by kernel_rfl) (by kernel_rfl) a.prs b.prs rfl rfl w
theorem neAG (a b : AG) (w : World) : (binOp .neq 51 (.agg #[.bool a.up, .int .i64 a.term, .int .i64 a.gen, .int .i64 a.mode, .int .i64 a.job, .int .i64 a.inc, .int .i64 a.version, .int .i64 a.lease, .int .i64 a.worked, .int .i64 a.to_]) (.agg #[.bool b.up, .int .i64 b.term, .int .i64 b.gen, .int .i64 b.mode, .int .i64 b.job, .int .i64 b.inc, .int .i64 b.version, .int .i64 b.lease, .int .i64 b.worked, .int .i64 b.to_])).run Try.prog w = .ok (.bool (!a.eq b)) w :=
  neMix [false, true, true, true, true, true, true, true, true, true] (by kernel_rfl) (by kernel_rfl) (by kernel_rfl) a.prs b.prs rfl rfl w
structure AG.Ok (a : AG) : Prop where
  term : 0 ≤ a.term ∧ a.term ≤ 1000000
  gen : 0 ≤ a.gen ∧ a.gen ≤ 1000000
  job : 0 ≤ a.job ∧ a.job ≤ 24
  inc : 0 ≤ a.inc ∧ a.inc ≤ 1000000
  lease : 0 ≤ a.lease ∧ a.lease ≤ 1000000
  mode : 0 ≤ a.mode ∧ a.mode ≤ 4
  version : 1 ≤ a.version ∧ a.version ≤ 9
  worked : 0 ≤ a.worked ∧ a.worked ≤ 1000000
  to_ : 0 ≤ a.to_ ∧ a.to_ ≤ 9
def RightPost (a : AG) (w : World) (e : Ending) (w' : World) : Prop := ∃ b, e = .returned (.bool b) ∧ (b = true → a.Ok) ∧ Below w.heap.size w w'
set_option maxRecDepth 10000 in
set_option maxHeartbeats 3200000 in
theorem agRight (a : AG) (w : World) : Calls Try.prog 32 #[.agg #[.bool a.up, .int .i64 a.term, .int .i64 a.gen, .int .i64 a.mode, .int .i64 a.job, .int .i64 a.inc, .int .i64 a.version, .int .i64 a.lease, .int .i64 a.worked, .int .i64 a.to_]] w (RightPost a w) := by
  have hb := ((St.start w).alloc (.cells #[.bool a.up, .int .i64 a.term, .int .i64 a.gen, .int .i64 a.mode, .int .i64 a.job, .int .i64 a.inc, .int .i64 a.version, .int .i64 a.lease, .int .i64 a.worked, .int .i64 a.to_] 51)).fin
  go_enter Try.func32, Try.ntmps32
  go_wp2
  all_goals
    go_ret
    refine ⟨_, rfl, fun h => ?_, hb⟩
    first
      | (cases h; done)
      | (simp only [decide_eq_true_eq] at h
         exact ⟨⟨by omega, by omega⟩, ⟨by omega, by omega⟩, ⟨by omega, by omega⟩, ⟨by omega, by omega⟩, ⟨by omega, by omega⟩, ⟨by omega, by omega⟩, ⟨by omega, by omega⟩, ⟨by omega, by omega⟩, ⟨by omega, by omega⟩⟩)
end Go.Proofs.Ytiilhfmmclhflaa

namespace Go.Proofs.Ytiilhfmmclhflaa
set_option linter.unusedVariables false
set_option linter.unusedSimpArgs false
open Go.RowKit
theorem St.agAt {w0 w : World} {l : List Thing} (S : St w0 w l) (k : Nat) {g : Nat} {T : TypeId} {a : AG} (h : l[k]? = some (cellsT g T a.cs)) : w.cell? ⟨g, 0, none⟩ = some (.bool a.up) ∧ w.cell? ⟨g, 1, none⟩ = some (.int .i64 a.term) ∧ w.cell? ⟨g, 2, none⟩ = some (.int .i64 a.gen) ∧ w.cell? ⟨g, 3, none⟩ = some (.int .i64 a.mode) ∧ w.cell? ⟨g, 4, none⟩ = some (.int .i64 a.job) ∧ w.cell? ⟨g, 5, none⟩ = some (.int .i64 a.inc) ∧ w.cell? ⟨g, 6, none⟩ = some (.int .i64 a.version) ∧ w.cell? ⟨g, 7, none⟩ = some (.int .i64 a.lease) ∧ w.cell? ⟨g, 8, none⟩ = some (.int .i64 a.worked) ∧ w.cell? ⟨g, 9, none⟩ = some (.int .i64 a.to_) :=
  ⟨S.cell k h 0 rfl, S.cell k h 1 rfl, S.cell k h 2 rfl, S.cell k h 3 rfl, S.cell k h 4 rfl, S.cell k h 5 rfl, S.cell k h 6 rfl, S.cell k h 7 rfl, S.cell k h 8 rfl, S.cell k h 9 rfl⟩
theorem St.agFz {w0 w : World} {l : List Thing} (S : St w0 w l) (k : Nat) {g : Nat} {T : TypeId} {cs : List Value} (h : l[k]? = some (cellsT g T cs)) : w.frozen? ⟨g, 0, none⟩ = false ∧ w.frozen? ⟨g, 1, none⟩ = false ∧ w.frozen? ⟨g, 2, none⟩ = false ∧ w.frozen? ⟨g, 3, none⟩ = false ∧ w.frozen? ⟨g, 4, none⟩ = false ∧ w.frozen? ⟨g, 5, none⟩ = false ∧ w.frozen? ⟨g, 6, none⟩ = false ∧ w.frozen? ⟨g, 7, none⟩ = false ∧ w.frozen? ⟨g, 8, none⟩ = false ∧ w.frozen? ⟨g, 9, none⟩ = false :=
  ⟨S.frozen k h 0, S.frozen k h 1, S.frozen k h 2, S.frozen k h 3, S.frozen k h 4, S.frozen k h 5, S.frozen k h 6, S.frozen k h 7, S.frozen k h 8, S.frozen k h 9⟩
def gA1 : AG := ⟨true, 0, 0, 1, 1, 1, 1, 9, 0, 0⟩
def gA2 : AG := ⟨true, 0, 0, 2, 1, 1, 1, 9, 0, 0⟩
def kM1 : Msg := ⟨0, 2, 0, 0, 1, 1, 1, 0, 9, 0, 0⟩
def kM2 : Msg := ⟨0, 3, 0, 0, 1, 1, 0, 0, 9, 0, 0⟩
theorem gTake1 : aTake aNew kM1 3 none = some (gA1, none) := by rfl
theorem gTake2 : aTake gA1 kM2 3 none = some (gA2, none) := by rfl
set_option maxRecDepth 10000 in
set_option maxHeartbeats 3200000 in
theorem alive13_any (w : World) : Calls Try.prog 31 #[] w fun e w' => e = .returned (.bool true) ∧ Below w.heap.size w w' := by
  have S0 : St w w [soT (.pointer none) none] := (St.start w).soNew
  have E1 : Hid (TakeV aNew 2 (aTake aNew kM1 3 none) = .tuple #[.agg #[.bool true, .int .i64 0, .int .i64 0, .int .i64 1, .int .i64 1, .int .i64 1, .int .i64 1, .int .i64 9, .int .i64 0, .int .i64 0], .agg #[.int .i64 2, .int .i64 6, .int .i64 0, .int .i64 0, .int .i64 1, .int .i64 1, .int .i64 1, .int .i64 0, .int .i64 0, .int .i64 1, .int .i64 0], .bool true]) := by rw [Hid, gTake1]; rfl
  have E2 : Hid (TakeV gA1 2 (aTake gA1 kM2 3 none) = .tuple #[.agg #[.bool true, .int .i64 0, .int .i64 0, .int .i64 2, .int .i64 1, .int .i64 1, .int .i64 1, .int .i64 9, .int .i64 0, .int .i64 0], .agg #[.int .i64 2, .int .i64 6, .int .i64 0, .int .i64 0, .int .i64 1, .int .i64 1, .int .i64 1, .int .i64 0, .int .i64 0, .int .i64 2, .int .i64 0], .bool true]) := by rw [Hid, gTake2]; rfl
  have E3 : Hid (TakeO none (aTake aNew kM1 3 none) = none) := by rw [Hid, gTake1]; rfl
  have E4 : Hid (TakeO none (aTake gA1 kM2 3 none) = none) := by rw [Hid, gTake2]; rfl
  have fld0 : ∀ wx : World, (Instr.field 51 (.agg #[.bool true, .int .i64 0, .int .i64 0, .int .i64 0, .int .i64 0, .int .i64 0, .int .i64 1, .int .i64 0, .int .i64 0, .int .i64 0]) 3).run Try.prog wx = .ok (.int .i64 0) wx := fun _ => by kernel_rfl
  have fld1 : ∀ wx : World, (Instr.field 51 (.agg #[.bool true, .int .i64 0, .int .i64 0, .int .i64 2, .int .i64 1, .int .i64 1, .int .i64 1, .int .i64 9, .int .i64 1, .int .i64 0]) 8).run Try.prog wx = .ok (.int .i64 1) wx := fun _ => by kernel_rfl
  have fld2 : ∀ wx : World, (Instr.field 51 (.agg #[.bool false, .int .i64 0, .int .i64 0, .int .i64 0, .int .i64 0, .int .i64 0, .int .i64 1, .int .i64 0, .int .i64 0, .int .i64 0]) 0).run Try.prog wx = .ok (.bool false) wx := fun _ => by kernel_rfl
  have fld3 : ∀ wx : World, (Instr.field 51 (.agg #[.bool true, .int .i64 0, .int .i64 0, .int .i64 0, .int .i64 0, .int .i64 0, .int .i64 1, .int .i64 0, .int .i64 0, .int .i64 0]) 0).run Try.prog wx = .ok (.bool true) wx := fun _ => by kernel_rfl
  have fld4 : ∀ wx : World, (Instr.field 53 (.agg #[.int .i64 1, .int .i64 6, .int .i64 0, .int .i64 0, .int .i64 1, .int .i64 1, .int .i64 1, .int .i64 0, .int .i64 0, .int .i64 1, .int .i64 0]) 4).run Try.prog wx = .ok (.int .i64 1) wx := fun _ => by kernel_rfl
  go_enter Try.func31, Try.ntmps31
  go_wp2_with fail
  refine (agNew _).mono ?_
  rintro e w1 ⟨rfl, hb1⟩
  have S1 := S0.grow hb1
  clear S0 hb1
  rw [show aNew.v = .agg #[.bool true, .int .i64 0, .int .i64 0, .int .i64 0, .int .i64 0, .int .i64 0, .int .i64 1, .int .i64 0, .int .i64 0, .int .i64 0] from rfl]
  go_wp2_with fail
  refine (agTake S1 aNew 2 kM1 3 (by decide)).mono ?_
  rintro e w2 ⟨rfl, S2⟩
  rw [E1.out]
  rw [E3.out] at S2
  clear S1
  have S3 : St w (w2.alloc (.cells #[.bool true, .int .i64 0, .int .i64 0, .int .i64 1, .int .i64 1, .int .i64 1, .int .i64 1, .int .i64 9, .int .i64 0, .int .i64 0] 51)) [soT (.pointer none) none, cellsT w2.heap.size 51 gA1.cs] := S2.newAt _ _ _ rfl
  have S4 : St w ((w2.alloc (.cells #[.bool true, .int .i64 0, .int .i64 0, .int .i64 1, .int .i64 1, .int .i64 1, .int .i64 1, .int .i64 9, .int .i64 0, .int .i64 0] 51)).alloc (.cells #[.int .i64 2, .int .i64 6, .int .i64 0, .int .i64 0, .int .i64 1, .int .i64 1, .int .i64 1, .int .i64 0, .int .i64 0, .int .i64 1, .int .i64 0] 53)) [soT (.pointer none) none, cellsT w2.heap.size 51 gA1.cs, cellsT (w2.heap.size + 1) 53 (aTell gA1 2).cs] := S3.newAt _ _ _ (alloc_size _ _)
  clear S2 S3
  go_wp2_with fail
  refine (agTake S4 gA1 2 kM2 3 (by decide)).mono ?_
  rintro e w5 ⟨rfl, S5⟩
  rw [E2.out]
  rw [E4.out] at S5
  clear S4
  have S6 : St w (w5.alloc (.cells #[.bool true, .int .i64 0, .int .i64 0, .int .i64 2, .int .i64 1, .int .i64 1, .int .i64 1, .int .i64 9, .int .i64 0, .int .i64 0] 51)) [soT (.pointer none) none, cellsT w2.heap.size 51 gA1.cs, cellsT (w2.heap.size + 1) 53 (aTell gA1 2).cs, cellsT w5.heap.size 51 gA2.cs] := S5.newAt _ _ _ rfl
  have S7 : St w ((w5.alloc (.cells #[.bool true, .int .i64 0, .int .i64 0, .int .i64 2, .int .i64 1, .int .i64 1, .int .i64 1, .int .i64 9, .int .i64 0, .int .i64 0] 51)).alloc (.cells #[.int .i64 2, .int .i64 6, .int .i64 0, .int .i64 0, .int .i64 1, .int .i64 1, .int .i64 1, .int .i64 0, .int .i64 0, .int .i64 2, .int .i64 0] 53)) [soT (.pointer none) none, cellsT w2.heap.size 51 gA1.cs, cellsT (w2.heap.size + 1) 53 (aTell gA1 2).cs, cellsT w5.heap.size 51 gA2.cs, cellsT (w5.heap.size + 1) 53 (aTell gA2 2).cs] := S6.newAt _ _ _ (alloc_size _ _)
  clear S5 S6
  obtain ⟨y0, y1, y2, y3, y4, y5, y6, y7, y8, y9⟩ := S7.agAt 1 rfl
  obtain ⟨z0, z1, z2, z3, z4, z5, z6, z7, z8, z9, z10⟩ := S7.msg 2 rfl
  obtain ⟨q0, q1, q2, q3, q4, q5, q6, q7, q8, q9⟩ := S7.agAt 3 rfl
  go_wp2_with fail
  refine (agAct gA2 9 _ (by decide)).mono ?_
  rintro e w8 ⟨rfl, hb8⟩
  have S8 := S7.grow hb8
  clear S7 hb8 q0 q1 q2 q3 q4 q5 q6 q7 q8 q9 y0 y1 y2 y3 y4 y5 y6 y7 y8 y9 z0 z1 z2 z3 z4 z5 z6 z7 z8 z9 z10
  rw [show (aAct gA2 9).v = .agg #[.bool true, .int .i64 0, .int .i64 0, .int .i64 0, .int .i64 0, .int .i64 0, .int .i64 1, .int .i64 0, .int .i64 0, .int .i64 0] from rfl]
  obtain ⟨y0, y1, y2, y3, y4, y5, y6, y7, y8, y9⟩ := S8.agAt 1 rfl
  obtain ⟨q0, q1, q2, q3, q4, q5, q6, q7, q8, q9⟩ := S8.agAt 3 rfl
  go_wp2_with fail
  refine (agAct gA2 8 _ (by decide)).mono ?_
  rintro e w9 ⟨rfl, hb9⟩
  have S9 := S8.grow hb9
  clear S8 hb9 q0 q1 q2 q3 q4 q5 q6 q7 q8 q9 y0 y1 y2 y3 y4 y5 y6 y7 y8 y9
  rw [show (aAct gA2 8).v = .agg #[.bool true, .int .i64 0, .int .i64 0, .int .i64 2, .int .i64 1, .int .i64 1, .int .i64 1, .int .i64 9, .int .i64 1, .int .i64 0] from rfl]
  obtain ⟨y0, y1, y2, y3, y4, y5, y6, y7, y8, y9⟩ := S9.agAt 1 rfl
  obtain ⟨q0, q1, q2, q3, q4, q5, q6, q7, q8, q9⟩ := S9.agAt 3 rfl
  go_wp2_with fail
  refine (agFenced gA2 9 _).mono ?_
  rintro e w10 ⟨rfl, hb10⟩
  have S10 := S9.grow hb10
  clear S9 hb10 q0 q1 q2 q3 q4 q5 q6 q7 q8 q9 y0 y1 y2 y3 y4 y5 y6 y7 y8 y9
  rw [show aFenced gA2 9 = true from rfl]
  obtain ⟨y0, y1, y2, y3, y4, y5, y6, y7, y8, y9⟩ := S10.agAt 1 rfl
  obtain ⟨q0, q1, q2, q3, q4, q5, q6, q7, q8, q9⟩ := S10.agAt 3 rfl
  go_wp2_with fail
  refine (agFail gA2 _).mono ?_
  rintro e w11 ⟨rfl, hb11⟩
  have S11 := S10.grow hb11
  clear S10 hb11 q0 q1 q2 q3 q4 q5 q6 q7 q8 q9 y0 y1 y2 y3 y4 y5 y6 y7 y8 y9
  rw [show (aFail gA2).v = .agg #[.bool false, .int .i64 0, .int .i64 0, .int .i64 0, .int .i64 0, .int .i64 0, .int .i64 1, .int .i64 0, .int .i64 0, .int .i64 0] from rfl]
  obtain ⟨y0, y1, y2, y3, y4, y5, y6, y7, y8, y9⟩ := S11.agAt 1 rfl
  obtain ⟨q0, q1, q2, q3, q4, q5, q6, q7, q8, q9⟩ := S11.agAt 3 rfl
  go_wp2_with fail
  refine (agFail gA2 _).mono ?_
  rintro e w12 ⟨rfl, hb12⟩
  have S12 := S11.grow hb12
  clear S11 hb12 q0 q1 q2 q3 q4 q5 q6 q7 q8 q9 y0 y1 y2 y3 y4 y5 y6 y7 y8 y9
  rw [show (aFail gA2).v = .agg #[.bool false, .int .i64 0, .int .i64 0, .int .i64 0, .int .i64 0, .int .i64 0, .int .i64 1, .int .i64 0, .int .i64 0, .int .i64 0] from rfl]
  obtain ⟨y0, y1, y2, y3, y4, y5, y6, y7, y8, y9⟩ := S12.agAt 1 rfl
  obtain ⟨q0, q1, q2, q3, q4, q5, q6, q7, q8, q9⟩ := S12.agAt 3 rfl
  go_wp2_with fail
  refine (agBack (aFail gA2) _).mono ?_
  rintro e w13 ⟨rfl, hb13⟩
  have S13 := S12.grow hb13
  clear S12 hb13 q0 q1 q2 q3 q4 q5 q6 q7 q8 q9 y0 y1 y2 y3 y4 y5 y6 y7 y8 y9
  rw [show (aBack (aFail gA2)).v = .agg #[.bool true, .int .i64 0, .int .i64 0, .int .i64 0, .int .i64 0, .int .i64 0, .int .i64 1, .int .i64 0, .int .i64 0, .int .i64 0] from rfl]
  obtain ⟨y0, y1, y2, y3, y4, y5, y6, y7, y8, y9⟩ := S13.agAt 1 rfl
  obtain ⟨q0, q1, q2, q3, q4, q5, q6, q7, q8, q9⟩ := S13.agAt 3 rfl
  go_wp2_with fail
  refine (agTell gA1 1 _).mono ?_
  rintro e w14 ⟨rfl, hb14⟩
  have S14 := S13.grow hb14
  clear S13 hb14 q0 q1 q2 q3 q4 q5 q6 q7 q8 q9 y0 y1 y2 y3 y4 y5 y6 y7 y8 y9
  rw [show (aTell gA1 1).v = .agg #[.int .i64 1, .int .i64 6, .int .i64 0, .int .i64 0, .int .i64 1, .int .i64 1, .int .i64 1, .int .i64 0, .int .i64 0, .int .i64 1, .int .i64 0] from rfl]
  obtain ⟨y0, y1, y2, y3, y4, y5, y6, y7, y8, y9⟩ := S14.agAt 1 rfl
  obtain ⟨q0, q1, q2, q3, q4, q5, q6, q7, q8, q9⟩ := S14.agAt 3 rfl
  go_wp2
  go_ret
  exact ⟨rfl, S14.fin⟩
end Go.Proofs.Ytiilhfmmclhflaa

namespace Go.Proofs.Ytiilhfmmclhflaa
set_option linter.unusedVariables false
set_option linter.unusedSimpArgs false
open Go.RowKit
theorem aTake_some {a b : AG} {m : Msg} {now : Int} {o o' : Option SS} (h : aTake a m now o = some (b, o')) : takesB a m = true ∧ oOrder { a with term := m.term, gen := m.gen } m now o = (b, o') := by
  unfold aTake at h
  by_cases ht : takesB a m = true
  · rw [if_pos ht] at h; exact ⟨ht, Option.some.inj h⟩
  · rw [if_neg ht] at h; cases h
theorem takesB_up {a : AG} {m : Msg} (h : takesB a m = true) : a.up = true := by
  unfold takesB at h
  rw [Bool.and_eq_true] at h
  exact h.1
theorem takesB_kind {a : AG} {m : Msg} (h : takesB a m = true) : 1 ≤ m.kind ∧ m.kind ≤ 5 := by
  simp only [takesB, Bool.and_eq_true, decide_eq_true_eq] at h
  exact ⟨h.2.1, h.2.2.1⟩
theorem oOrder_none (a : AG) (m : Msg) (now : Int) : (oOrder a m now none).2 = none := by
  unfold oOrder
  split <;> (try rfl); split <;> (try rfl); split <;> (try rfl); split <;> (try rfl)
  unfold oSave oStage
  split <;> (try split) <;> rfl
/-- What an order leaves as it is. -/
theorem oOrder_keeps (a : AG) (m : Msg) (now : Int) (o : Option SS) : (oOrder a m now o).1.term = a.term ∧ (oOrder a m now o).1.gen = a.gen ∧ (oOrder a m now o).1.up = a.up ∧ (oOrder a m now o).1.version = a.version := by
  unfold oOrder oRest oTake oWork oSave oTurn aRenew aLoose
  repeat' split
  all_goals exact ⟨rfl, rfl, rfl, rfl⟩
set_option maxRecDepth 10000 in
set_option maxHeartbeats 3200000 in
theorem agentRests_law (a : AG) (m : Msg) (now : Int) (w : World) :
    Calls Try.prog 8 #[.agg #[.bool a.up, .int .i64 a.term, .int .i64 a.gen, .int .i64 a.mode, .int .i64 a.job, .int .i64 a.inc, .int .i64 a.version, .int .i64 a.lease, .int .i64 a.worked, .int .i64 a.to_], .agg #[.int .i64 m.node, .int .i64 m.kind, .int .i64 m.term, .int .i64 m.gen, .int .i64 m.job, .int .i64 m.inc, .int .i64 m.version, .int .i64 m.epoch, .int .i64 m.until_, .int .i64 m.mode, .int .i64 m.work], .int .i64 now] w fun e w' => e = .returned (.bool true) ∧ Below w.heap.size w w' := by
  have S0 : St w ((w.alloc (.cells #[.bool a.up, .int .i64 a.term, .int .i64 a.gen, .int .i64 a.mode, .int .i64 a.job, .int .i64 a.inc, .int .i64 a.version, .int .i64 a.lease, .int .i64 a.worked, .int .i64 a.to_] 51)).alloc (.cells #[.int .i64 m.node, .int .i64 m.kind, .int .i64 m.term, .int .i64 m.gen, .int .i64 m.job, .int .i64 m.inc, .int .i64 m.version, .int .i64 m.epoch, .int .i64 m.until_, .int .i64 m.mode, .int .i64 m.work] 53)) [cellsT w.heap.size 51 a.cs, cellsT (w.heap.size + 1) 53 m.cs] := St.newAt ((St.start w).newCells 51 #[.bool a.up, .int .i64 a.term, .int .i64 a.gen, .int .i64 a.mode, .int .i64 a.job, .int .i64 a.inc, .int .i64 a.version, .int .i64 a.lease, .int .i64 a.worked, .int .i64 a.to_]) _ _ _ (alloc_size _ _)
  go_enter Try.func8, Try.ntmps8
  go_wp2_with fail
  refine (alive13_any _).mono ?_
  rintro e w1 ⟨rfl, hb1⟩
  have S1 := S0.grow hb1
  clear hb1 S0
  obtain ⟨x0, x1, x2, x3, x4, x5, x6, x7, x8, x9⟩ := S1.agAt 0 rfl
  go_wp2_with fail
  refine (agRight a _).mono ?_
  rintro e w2 ⟨r, rfl, hr, hb2⟩
  have S2 := S1.grow hb2
  clear hb2 S1 x0 x1 x2 x3 x4 x5 x6 x7 x8 x9
  cases r
  · go_wp2
    go_ret
    exact ⟨rfl, S2.fin⟩
  have HA : Hid (AG.Ok a) := hr rfl
  clear hr
  obtain ⟨z0, z1, z2, z3, z4, z5, z6, z7, z8, z9, z10⟩ := S2.msg 1 rfl
  go_wp2_with fail
  refine (rright_any m _).mono ?_
  rintro e w3 ⟨rfl, hb3⟩
  have S3 := S2.grow hb3
  clear hb3 S2 z0 z1 z2 z3 z4 z5 z6 z7 z8 z9 z10
  cases m.right
  · go_wp2
    go_ret
    exact ⟨rfl, S3.fin⟩
  generalize w.heap.size + 1 = gm at *
  generalize hga : w.heap.size = ga at S3 ⊢
  clear hga
  obtain ⟨x0, x1, x2, x3, x4, x5, x6, x7, x8, x9⟩ := S3.agAt 0 rfl
  obtain ⟨z0, z1, z2, z3, z4, z5, z6, z7, z8, z9, z10⟩ := S3.msg 1 rfl
  have f1 := S3.frozen 1 rfl 1
  have ne := S3.ne 0 1 (by decide) rfl rfl
  have S4 : St w (w3.setCell ⟨gm, 1, none⟩ (.int .i64 1)) [cellsT ga 51 a.cs, cellsT gm 53 ({ m with kind := 1 } : Msg).cs] := S3.setCell 1 rfl 1 (.int .i64 1)
  clear S3
  have S5 := St.rot (l := [cellsT ga 51 a.cs, cellsT gm 53 ({ m with kind := 1 } : Msg).cs]) S4.soNew
  clear S4
  go_wp2_with fail
  refine (agTake S5 a 0 { m with kind := 1 } now (by decide)).mono ?_
  rintro e w6 ⟨rfl, S6⟩
  clear S5 f1 ne x0 x1 x2 x3 x4 x5 x6 x7 x8 x9 z0 z1 z2 z3 z4 z5 z6 z7 z8 z9 z10
  have S7 := S6.tail
  clear S6
  rcases hT : aTake a { m with kind := 1 } now none with _ | ⟨b, o'⟩
  · rw [show TakeV a 0 none = .tuple #[.agg #[.bool a.up, .int .i64 a.term, .int .i64 a.gen, .int .i64 a.mode, .int .i64 a.job, .int .i64 a.inc, .int .i64 a.version, .int .i64 a.lease, .int .i64 a.worked, .int .i64 a.to_], .agg #[.int .i64 0, .int .i64 0, .int .i64 0, .int .i64 0, .int .i64 0, .int .i64 0, .int .i64 0, .int .i64 0, .int .i64 0, .int .i64 0, .int .i64 0], .bool false] from rfl]
    have q1 := fun wx => eqAG a a wx
    rw [AG.eq_self] at q1
    clear hT
    have S8 : St w (w6.alloc (.cells #[.bool a.up, .int .i64 a.term, .int .i64 a.gen, .int .i64 a.mode, .int .i64 a.job, .int .i64 a.inc, .int .i64 a.version, .int .i64 a.lease, .int .i64 a.worked, .int .i64 a.to_] 51)) [cellsT ga 51 a.cs, cellsT gm 53 ({ m with kind := 1 } : Msg).cs, cellsT w6.heap.size 51 a.cs] := S7.newAt _ _ _ rfl
    have S9 := S8.alloc (.cells #[.int .i64 0, .int .i64 0, .int .i64 0, .int .i64 0, .int .i64 0, .int .i64 0, .int .i64 0, .int .i64 0, .int .i64 0, .int .i64 0, .int .i64 0] 53)
    clear S7 S8
    obtain ⟨x0, x1, x2, x3, x4, x5, x6, x7, x8, x9⟩ := S9.agAt 0 rfl
    by_cases hu : a.up = false
    · have hE : Hid (aAct a now = a) := by rw [Hid]; unfold aAct; rw [if_pos (.inl hu)]
      have hnu : (!a.up) = true := by rw [hu]; rfl
      clear hu
      go_wp2_with fail
      refine wp_region_held_drew (S := (fun w' => (w'.cell? ⟨ga, 0, none⟩ = some (.bool a.up) ∧ w'.cell? ⟨ga, 1, none⟩ = some (.int .i64 a.term) ∧ w'.cell? ⟨ga, 2, none⟩ = some (.int .i64 a.gen) ∧ w'.cell? ⟨ga, 3, none⟩ = some (.int .i64 a.mode) ∧ w'.cell? ⟨ga, 4, none⟩ = some (.int .i64 a.job) ∧ w'.cell? ⟨ga, 5, none⟩ = some (.int .i64 a.inc) ∧ w'.cell? ⟨ga, 6, none⟩ = some (.int .i64 a.version) ∧ w'.cell? ⟨ga, 7, none⟩ = some (.int .i64 a.lease) ∧ w'.cell? ⟨ga, 8, none⟩ = some (.int .i64 a.worked) ∧ w'.cell? ⟨ga, 9, none⟩ = some (.int .i64 a.to_)) ∧ (w'.cell? ⟨w6.heap.size, 0, none⟩ = some (.bool a.up) ∧ w'.cell? ⟨w6.heap.size, 1, none⟩ = some (.int .i64 a.term) ∧ w'.cell? ⟨w6.heap.size, 2, none⟩ = some (.int .i64 a.gen) ∧ w'.cell? ⟨w6.heap.size, 3, none⟩ = some (.int .i64 a.mode) ∧ w'.cell? ⟨w6.heap.size, 4, none⟩ = some (.int .i64 a.job) ∧ w'.cell? ⟨w6.heap.size, 5, none⟩ = some (.int .i64 a.inc) ∧ w'.cell? ⟨w6.heap.size, 6, none⟩ = some (.int .i64 a.version) ∧ w'.cell? ⟨w6.heap.size, 7, none⟩ = some (.int .i64 a.lease) ∧ w'.cell? ⟨w6.heap.size, 8, none⟩ = some (.int .i64 a.worked) ∧ w'.cell? ⟨w6.heap.size, 9, none⟩ = some (.int .i64 a.to_)))) (by kernel_rfl) (by exact ⟨S9.drew.agAt 0 rfl, S9.drew.agAt 2 rfl⟩) (fun hHeld => ?_)
      change wpAnyH _ _ _ _ _ 15 (Array.replicate 15 false) _ _
      refine wpAnyH_take (i := 0) (v := ?v1) (ops_at rfl) (by kernel_rfl) (by kernel_rfl) (by kernel_rfl) (fun _ _ _ h => h) (Or.inl ⟨by rfl, ?hy1⟩) (by assumption) ?rest1
      case hy1 => intro w' hSw; (try dsimp only at hSw); go_simp; try with_reducible rfl
      try simp only [Act.put, List.setIfInBounds_toArray, List.set_cons_zero, List.set_cons_succ]
      refine wpAnyH_take (i := 1) (v := ?v2) (ops_at rfl) (by kernel_rfl) (by kernel_rfl) (by kernel_rfl) (fun _ _ _ h => h) (Or.inl ⟨by rfl, ?hy2⟩) (by assumption) ?rest2
      case hy2 => intro w' hSw; (try dsimp only at hSw); go_simp; try with_reducible rfl
      try simp only [Act.put, List.setIfInBounds_toArray, List.set_cons_zero, List.set_cons_succ]
      refine wpAnyH_take (i := 2) (v := ?v3) (ops_at rfl) (by kernel_rfl) (by kernel_rfl) (by kernel_rfl) (fun _ _ _ h => h) (Or.inl ⟨by rfl, ?hy3⟩) (by assumption) ?rest3
      case hy3 => intro w' hSw; (try dsimp only at hSw); go_simp; try with_reducible rfl
      try simp only [Act.put, List.setIfInBounds_toArray, List.set_cons_zero, List.set_cons_succ]
      refine wpAnyH_take (i := 3) (v := ?v4) (ops_at rfl) (by kernel_rfl) (by kernel_rfl) (by kernel_rfl) (fun _ _ _ h => h) (Or.inl ⟨by rfl, ?hy4⟩) (by assumption) ?rest4
      case hy4 => intro w' hSw; (try dsimp only at hSw); go_simp; try with_reducible rfl
      try simp only [Act.put, List.setIfInBounds_toArray, List.set_cons_zero, List.set_cons_succ]
      refine wpAnyH_take (i := 4) (v := ?v5) (ops_at rfl) (by kernel_rfl) (by kernel_rfl) (by kernel_rfl) (fun _ _ _ h => h) (Or.inl ⟨by rfl, ?hy5⟩) (by assumption) ?rest5
      case hy5 => intro w' hSw; (try dsimp only at hSw); go_simp; try with_reducible rfl
      try simp only [Act.put, List.setIfInBounds_toArray, List.set_cons_zero, List.set_cons_succ]
      refine wpAnyH_take (i := 5) (v := ?v6) (ops_at rfl) (by kernel_rfl) (by kernel_rfl) (by kernel_rfl) (fun _ _ _ h => h) (Or.inl ⟨by rfl, ?hy6⟩) (by assumption) ?rest6
      case hy6 => intro w' hSw; (try dsimp only at hSw); go_simp; try with_reducible rfl
      try simp only [Act.put, List.setIfInBounds_toArray, List.set_cons_zero, List.set_cons_succ]
      refine wpAnyH_take (i := 6) (v := ?v7) (ops_at rfl) (by kernel_rfl) (by kernel_rfl) (by kernel_rfl) (fun _ _ _ h => h) (Or.inl ⟨by rfl, ?hy7⟩) (by assumption) ?rest7
      case hy7 => intro w' hSw; (try dsimp only at hSw); go_simp; try with_reducible rfl
      try simp only [Act.put, List.setIfInBounds_toArray, List.set_cons_zero, List.set_cons_succ]
      refine wpAnyH_take (i := 7) (v := ?v8) (ops_at rfl) (by kernel_rfl) (by kernel_rfl) (by kernel_rfl) (fun _ _ _ h => h) (Or.inl ⟨by rfl, ?hy8⟩) (by assumption) ?rest8
      case hy8 => intro w' hSw; (try dsimp only at hSw); go_simp; try with_reducible rfl
      try simp only [Act.put, List.setIfInBounds_toArray, List.set_cons_zero, List.set_cons_succ]
      refine wpAnyH_take (i := 8) (v := ?v9) (ops_at rfl) (by kernel_rfl) (by kernel_rfl) (by kernel_rfl) (fun _ _ _ h => h) (Or.inl ⟨by rfl, ?hy9⟩) (by assumption) ?rest9
      case hy9 => intro w' hSw; (try dsimp only at hSw); go_simp; try with_reducible rfl
      try simp only [Act.put, List.setIfInBounds_toArray, List.set_cons_zero, List.set_cons_succ]
      refine wpAnyH_take (i := 9) (v := ?v10) (ops_at rfl) (by kernel_rfl) (by kernel_rfl) (by kernel_rfl) (fun _ _ _ h => h) (Or.inl ⟨by rfl, ?hy10⟩) (by assumption) ?rest10
      case hy10 => intro w' hSw; (try dsimp only at hSw); go_simp; try with_reducible rfl
      try simp only [Act.put, List.setIfInBounds_toArray, List.set_cons_zero, List.set_cons_succ]
      refine wpAnyH_take (i := 11) (v := ?v11) (ops_at rfl) (by kernel_rfl) (by kernel_rfl) (by kernel_rfl) (fun _ _ _ h => h) (Or.inl ⟨by rfl, ?hy11⟩) (by assumption) ?rest11
      case hy11 => intro w' hSw; (try dsimp only at hSw); go_simp; try with_reducible rfl
      try simp only [Act.put, List.setIfInBounds_toArray, List.set_cons_zero, List.set_cons_succ]
      refine wpAnyH_ready (rs := [10]) (by kernel_rfl) (by simp) ?_
      refine AllReadyH.cons (ops_at rfl) (fun K hK => ?_) AllReadyH.nil
      go_simp
      refine (agAct a now _ HA.out.worked).mono ?_
      rintro e w10 ⟨rfl, hb10⟩
      rw [hE.out, show a.v = .agg #[.bool a.up, .int .i64 a.term, .int .i64 a.gen, .int .i64 a.mode, .int .i64 a.job, .int .i64 a.inc, .int .i64 a.version, .int .i64 a.lease, .int .i64 a.worked, .int .i64 a.to_] from rfl]
      have S10 := S9.drew.grow hb10
      clear hb10
      refine hK.out _ _ (by exact ⟨S10.agAt 0 rfl, S10.agAt 2 rfl⟩) (fun hHeld => ?_)
      clear hK K
      try simp only [Act.put, List.setIfInBounds_toArray, List.set_cons_zero, List.set_cons_succ]
      refine wpAnyH_take (i := 12) (v := ?v13) (ops_at rfl) (by kernel_rfl) (by kernel_rfl) (by kernel_rfl) (fun _ _ _ h => h) (Or.inl ⟨by rfl, ?hy13⟩) (by assumption) ?rest13
      case hy13 => intro w' hSw; (try dsimp only at hSw); go_simp; try with_reducible rfl
      try simp only [Act.put, List.setIfInBounds_toArray, List.set_cons_zero, List.set_cons_succ]
      refine wpAnyH_take (i := 13) (v := ?v14) (ops_at rfl) (by kernel_rfl) (by kernel_rfl) (by kernel_rfl) (fun _ _ _ h => h) (Or.inl ⟨by rfl, ?hy14⟩) (by assumption) ?rest14
      case hy14 => intro w' hSw; (try dsimp only at hSw); go_simp; try with_reducible rfl
      try simp only [Act.put, List.setIfInBounds_toArray, List.set_cons_zero, List.set_cons_succ]
      refine wpAnyH_take (i := 14) (v := ?v15) (ops_at rfl) (by kernel_rfl) (by kernel_rfl) (by kernel_rfl) (fun _ _ _ h => h) (Or.inl ⟨by rfl, ?hy15⟩) (by assumption) ?rest15
      case hy15 => intro w' hSw; (try dsimp only at hSw); go_simp; try with_reducible rfl
      try simp only [Act.put, List.setIfInBounds_toArray, List.set_cons_zero, List.set_cons_succ]
      refine wpAnyH_done (by kernel_rfl) ?_ _
      go_wp2
      go_ret
      exact ⟨rfl, S10.fin⟩
    · have hnu : (!a.up) = false := by simpa using hu
      clear hu
      go_wp2
      go_ret
      exact ⟨rfl, S9.fin⟩
  · obtain ⟨ht, ho⟩ := aTake_some hT
    have hu := takesB_up ht
    have hnu : (!a.up) = false := by rw [hu]; rfl
    have hb : oRest { a with term := m.term, gen := m.gen } = b := by
      have := congrArg Prod.fst ho
      exact this
    have hk : (b.version == a.version) = true ∧ ((a.mode = 4 ∧ b.mode = 4) ∨ (b.mode = 0 ∧ b.job = 0 ∧ b.worked = 0)) := by
      rw [← hb]
      unfold oRest
      by_cases h4 : a.mode = 4
      · rw [if_pos (show ({ a with term := m.term, gen := m.gen } : AG).mode = 4 from h4)]
        exact ⟨by simp, .inl ⟨h4, h4⟩⟩
      · rw [if_neg (show ¬ ({ a with term := m.term, gen := m.gen } : AG).mode = 4 from h4)]
        exact ⟨by simp [aLoose], .inr ⟨rfl, rfl, rfl⟩⟩
    obtain ⟨hk1, hk2⟩ := hk
    clear hT ht ho hu hb
    rw [show TakeV a 0 (some (b, o')) = .tuple #[.agg #[.bool b.up, .int .i64 b.term, .int .i64 b.gen, .int .i64 b.mode, .int .i64 b.job, .int .i64 b.inc, .int .i64 b.version, .int .i64 b.lease, .int .i64 b.worked, .int .i64 b.to_], .agg (aTell b 0).cs.toArray, .bool true] from rfl]
    rw [show (aTell b 0).cs.toArray = (#[.int .i64 0, .int .i64 6, .int .i64 b.term, .int .i64 b.gen, .int .i64 b.job, .int .i64 b.inc, .int .i64 b.version, .int .i64 0, .int .i64 0, .int .i64 b.mode, .int .i64 b.worked] : Array Value) from rfl]
    obtain ⟨x0, x1, x2, x3, x4, x5, x6, x7, x8, x9⟩ := ((S7.alloc (.cells #[.bool b.up, .int .i64 b.term, .int .i64 b.gen, .int .i64 b.mode, .int .i64 b.job, .int .i64 b.inc, .int .i64 b.version, .int .i64 b.lease, .int .i64 b.worked, .int .i64 b.to_] 51)).alloc (.cells #[.int .i64 0, .int .i64 6, .int .i64 b.term, .int .i64 b.gen, .int .i64 b.job, .int .i64 b.inc, .int .i64 b.version, .int .i64 0, .int .i64 0, .int .i64 b.mode, .int .i64 b.worked] 53)).agAt 0 rfl
    rcases hk2 with ⟨k1, k2⟩ | ⟨k1, k2, k3⟩
    · have g1 : (a.mode == 4) = true := by simpa using k1
      have g2 : (b.mode == 4) = true := by simpa using k2
      clear k1 k2
      go_wp2
      go_ret
      exact ⟨rfl, ((S7.alloc _).alloc _).fin⟩
    · have g1 : (b.mode == 4) = false := by rw [k1]; rfl
      have g2 : (b.mode == 0) = true := by rw [k1]; rfl
      have g3 : (b.job == 0) = true := by rw [k2]; rfl
      have g4 : (b.worked == 0) = true := by rw [k3]; rfl
      clear k1 k2 k3
      go_wp2
      all_goals (go_ret; exact ⟨rfl, ((S7.alloc _).alloc _).fin⟩)
end Go.Proofs.Ytiilhfmmclhflaa

namespace Go.Proofs.Ytiilhfmmclhflaa
set_option linter.unusedVariables false
set_option linter.unusedSimpArgs false
open Go.RowKit
theorem aFenced_act (a : AG) (now : Int) : aFenced (aAct a now) now = false := by
  unfold aFenced aAct
  by_cases h1 : a.up = false ∨ a.mode = 0
  · rw [if_pos h1]
    rcases h1 with h | h
    · rw [h]; rfl
    · rw [h]; simp
  · rw [if_neg h1]
    by_cases h2 : a.mode = 4
    · rw [if_pos h2]; simp [aLoose]
    · rw [if_neg h2]
      by_cases h3 : a.lease ≤ now
      · rw [if_pos h3]; simp [aLoose]
      · rw [if_neg h3]
        by_cases h4 : a.mode = 2
        · rw [if_pos h4]; simp [h3]
        · rw [if_neg h4]; simp [h3]
theorem oOrder_lease (a : AG) (m : Msg) (now : Int) (h1 : m.kind ≠ 1) (h0 : a.mode ≠ 0) (h3 : ¬ (m.kind = 3 ∧ a.mode = 1)) : a.lease ≤ (oOrder a m now none).1.lease ∧ (oOrder a m now none).1.job = a.job ∧ (oOrder a m now none).1.inc = a.inc := by
  unfold oOrder
  rw [if_neg h1]
  by_cases k2 : m.kind = 2
  · rw [if_pos k2]
    unfold oTake
    split
    · exact ⟨Int.le_max_left _ _, rfl, rfl⟩
    · rw [if_neg (fun h => h0 h.1)]; exact ⟨Int.le_refl _, rfl, rfl⟩
  · rw [if_neg k2]
    by_cases k3 : m.kind = 3
    · rw [if_pos k3]
      unfold oWork
      split
      · exact ⟨Int.le_max_left _ _, rfl, rfl⟩
      · rw [if_neg (fun h => h3 ⟨k3, by simp only [ownsJ, Bool.and_eq_true, beq_iff_eq] at h; exact h.1⟩)]; exact ⟨Int.le_refl _, rfl, rfl⟩
    · rw [if_neg k3]
      by_cases k4 : m.kind = 4
      · rw [if_pos k4]
        unfold oSave
        split
        · split
          · dsimp only; split <;> exact ⟨Int.le_refl _, rfl, rfl⟩
          · exact ⟨Int.le_refl _, rfl, rfl⟩
        · exact ⟨Int.le_refl _, rfl, rfl⟩
      · rw [if_neg k4]
        unfold oTurn
        rw [if_neg (fun h => h0 h.1)]; exact ⟨Int.le_refl _, rfl, rfl⟩
set_option maxRecDepth 10000 in
set_option maxHeartbeats 3200000 in
theorem agentLease_law (a : AG) (m : Msg) (now : Int) (w : World) :
    Calls Try.prog 9 #[.agg #[.bool a.up, .int .i64 a.term, .int .i64 a.gen, .int .i64 a.mode, .int .i64 a.job, .int .i64 a.inc, .int .i64 a.version, .int .i64 a.lease, .int .i64 a.worked, .int .i64 a.to_], .agg #[.int .i64 m.node, .int .i64 m.kind, .int .i64 m.term, .int .i64 m.gen, .int .i64 m.job, .int .i64 m.inc, .int .i64 m.version, .int .i64 m.epoch, .int .i64 m.until_, .int .i64 m.mode, .int .i64 m.work], .int .i64 now] w fun e w' => e = .returned (.bool true) ∧ Below w.heap.size w w' := by
  have S0 : St w ((w.alloc (.cells #[.bool a.up, .int .i64 a.term, .int .i64 a.gen, .int .i64 a.mode, .int .i64 a.job, .int .i64 a.inc, .int .i64 a.version, .int .i64 a.lease, .int .i64 a.worked, .int .i64 a.to_] 51)).alloc (.cells #[.int .i64 m.node, .int .i64 m.kind, .int .i64 m.term, .int .i64 m.gen, .int .i64 m.job, .int .i64 m.inc, .int .i64 m.version, .int .i64 m.epoch, .int .i64 m.until_, .int .i64 m.mode, .int .i64 m.work] 53)) [cellsT w.heap.size 51 a.cs, cellsT (w.heap.size + 1) 53 m.cs] := St.newAt ((St.start w).newCells 51 #[.bool a.up, .int .i64 a.term, .int .i64 a.gen, .int .i64 a.mode, .int .i64 a.job, .int .i64 a.inc, .int .i64 a.version, .int .i64 a.lease, .int .i64 a.worked, .int .i64 a.to_]) _ _ _ (alloc_size _ _)
  go_enter Try.func9, Try.ntmps9
  go_wp2_with fail
  refine (alive13_any _).mono ?_
  rintro e w1 ⟨rfl, hb1⟩
  have S1 := S0.grow hb1
  clear hb1 S0
  obtain ⟨x0, x1, x2, x3, x4, x5, x6, x7, x8, x9⟩ := S1.agAt 0 rfl
  go_wp2_with fail
  refine (agRight a _).mono ?_
  rintro e w2 ⟨r, rfl, hr, hb2⟩
  have S2 := S1.grow hb2
  clear hb2 S1 x0 x1 x2 x3 x4 x5 x6 x7 x8 x9
  cases r
  · go_wp2
    go_ret
    exact ⟨rfl, S2.fin⟩
  have HA : Hid (AG.Ok a) := hr rfl
  clear hr
  obtain ⟨z0, z1, z2, z3, z4, z5, z6, z7, z8, z9, z10⟩ := S2.msg 1 rfl
  go_wp2_with fail
  refine (rright_any m _).mono ?_
  rintro e w3 ⟨rfl, hb3⟩
  have S3 := S2.grow hb3
  clear hb3 S2 z0 z1 z2 z3 z4 z5 z6 z7 z8 z9 z10
  cases m.right
  · go_wp2
    go_ret
    exact ⟨rfl, S3.fin⟩
  generalize w.heap.size + 1 = gm at *
  generalize hga : w.heap.size = ga at S3 ⊢
  clear hga
  obtain ⟨x0, x1, x2, x3, x4, x5, x6, x7, x8, x9⟩ := S3.agAt 0 rfl
  go_wp2_with fail
  refine (agAct a now _ HA.out.worked).mono ?_
  rintro e w4 ⟨rfl, hb4⟩
  have HF := hid (aFenced_act a now)
  generalize aAct a now = b at *
  rw [show b.v = .agg #[.bool b.up, .int .i64 b.term, .int .i64 b.gen, .int .i64 b.mode, .int .i64 b.job, .int .i64 b.inc, .int .i64 b.version, .int .i64 b.lease, .int .i64 b.worked, .int .i64 b.to_] from rfl]
  have S4 := S3.grow hb4
  clear hb4 S3 x0 x1 x2 x3 x4 x5 x6 x7 x8 x9
  go_wp2_with fail
  refine (agFenced b now _).mono ?_
  rintro e w5 ⟨rfl, hb5⟩
  rw [HF.out]
  have S4b := S4.grow hb5
  clear hb5 S4 HF
  have S5 := St.rot (l := [cellsT ga 51 a.cs, cellsT gm 53 m.cs]) S4b.soNew
  clear S4b
  obtain ⟨x0, x1, x2, x3, x4, x5, x6, x7, x8, x9⟩ := S5.agAt 1 rfl
  obtain ⟨z0, z1, z2, z3, z4, z5, z6, z7, z8, z9, z10⟩ := S5.msg 2 rfl
  go_wp2_with fail
  refine (agTake S5 a 0 m now (by decide)).mono ?_
  rintro e w6 ⟨rfl, S6⟩
  clear S5 x0 x1 x2 x3 x4 x5 x6 x7 x8 x9 z0 z1 z2 z3 z4 z5 z6 z7 z8 z9 z10
  have S7 := S6.tail
  clear S6
  rcases hT : aTake a m now none with _ | ⟨b, o'⟩
  · rw [show TakeV a 0 none = .tuple #[.agg #[.bool a.up, .int .i64 a.term, .int .i64 a.gen, .int .i64 a.mode, .int .i64 a.job, .int .i64 a.inc, .int .i64 a.version, .int .i64 a.lease, .int .i64 a.worked, .int .i64 a.to_], .agg #[.int .i64 0, .int .i64 0, .int .i64 0, .int .i64 0, .int .i64 0, .int .i64 0, .int .i64 0, .int .i64 0, .int .i64 0, .int .i64 0, .int .i64 0], .bool false] from rfl]
    clear hT
    go_wp2
    go_ret
    exact ⟨rfl, ((S7.alloc _).alloc _).fin⟩
  · obtain ⟨ht, ho⟩ := aTake_some hT
    have hl := oOrder_lease { a with term := m.term, gen := m.gen } m now
    rw [ho] at hl
    have HL := hid hl
    clear hT ht ho hl
    rw [show TakeV a 0 (some (b, o')) = .tuple #[.agg #[.bool b.up, .int .i64 b.term, .int .i64 b.gen, .int .i64 b.mode, .int .i64 b.job, .int .i64 b.inc, .int .i64 b.version, .int .i64 b.lease, .int .i64 b.worked, .int .i64 b.to_], .agg (aTell b 0).cs.toArray, .bool true] from rfl]
    rw [show (aTell b 0).cs.toArray = (#[.int .i64 0, .int .i64 6, .int .i64 b.term, .int .i64 b.gen, .int .i64 b.job, .int .i64 b.inc, .int .i64 b.version, .int .i64 0, .int .i64 0, .int .i64 b.mode, .int .i64 b.worked] : Array Value) from rfl]
    have S8 := (S7.alloc (.cells #[.bool b.up, .int .i64 b.term, .int .i64 b.gen, .int .i64 b.mode, .int .i64 b.job, .int .i64 b.inc, .int .i64 b.version, .int .i64 b.lease, .int .i64 b.worked, .int .i64 b.to_] 51)).alloc (.cells (#[.int .i64 0, .int .i64 6, .int .i64 b.term, .int .i64 b.gen, .int .i64 b.job, .int .i64 b.inc, .int .i64 b.version, .int .i64 0, .int .i64 0, .int .i64 b.mode, .int .i64 b.worked] : Array Value) 53)
    clear S7
    obtain ⟨x0, x1, x2, x3, x4, x5, x6, x7, x8, x9⟩ := S8.agAt 0 rfl
    obtain ⟨z0, z1, z2, z3, z4, z5, z6, z7, z8, z9, z10⟩ := S8.msg 1 rfl
    by_cases k1 : m.kind = 1
    · have g1 : (m.kind == 1) = true := by simpa using k1
      clear k1
      go_wp2
      go_ret
      exact ⟨rfl, S8.fin⟩
    have g1 : (m.kind == 1) = false := by simpa using k1
    by_cases k0 : a.mode = 0
    · have g0 : (a.mode == 0) = true := by simpa using k0
      clear k0 k1
      go_wp2
      go_ret
      exact ⟨rfl, S8.fin⟩
    have g0 : (a.mode == 0) = false := by simpa using k0
    by_cases k3 : m.kind = 3 ∧ a.mode = 1
    · have g2 : (m.kind == 3) = true := by simpa using k3.1
      have g3 : (a.mode == 1) = true := by simpa using k3.2
      clear k0 k1 k3
      go_wp2
      go_ret
      exact ⟨rfl, S8.fin⟩
    obtain ⟨l1, l2, l3⟩ := HL.out k1 k0 k3
    have e1 : decide (a.lease ≤ b.lease) = true := decide_eq_true l1
    have e2 : (b.job == a.job) = true := beq_iff_eq.2 l2
    have e3 : (b.inc == a.inc) = true := beq_iff_eq.2 l3
    have g2 : ((m.kind == 3) = true ∧ (a.mode == 1) = false) ∨ (m.kind == 3) = false := by
      by_cases h : m.kind = 3
      · exact .inl ⟨by simpa using h, by simpa using fun h2 => k3 ⟨h, h2⟩⟩
      · exact .inr (by simpa using h)
    clear k0 k1 k3 l1 l2 l3 HL
    rcases g2 with ⟨g2, g3⟩ | g2
    · go_wp2
      go_ret
      exact ⟨rfl, S8.fin⟩
    · go_wp2
      go_ret
      exact ⟨rfl, S8.fin⟩
set_option maxRecDepth 10000 in
set_option maxHeartbeats 3200000 in
theorem agentTells_law (a : AG) (node : Int) (m : Msg) (now : Int) (w : World) :
    Calls Try.prog 10 #[.agg #[.bool a.up, .int .i64 a.term, .int .i64 a.gen, .int .i64 a.mode, .int .i64 a.job, .int .i64 a.inc, .int .i64 a.version, .int .i64 a.lease, .int .i64 a.worked, .int .i64 a.to_], .int .i64 node, .agg #[.int .i64 m.node, .int .i64 m.kind, .int .i64 m.term, .int .i64 m.gen, .int .i64 m.job, .int .i64 m.inc, .int .i64 m.version, .int .i64 m.epoch, .int .i64 m.until_, .int .i64 m.mode, .int .i64 m.work], .int .i64 now] w fun e w' => e = .returned (.bool true) ∧ Below w.heap.size w w' := by
  have S0 : St w ((w.alloc (.cells #[.bool a.up, .int .i64 a.term, .int .i64 a.gen, .int .i64 a.mode, .int .i64 a.job, .int .i64 a.inc, .int .i64 a.version, .int .i64 a.lease, .int .i64 a.worked, .int .i64 a.to_] 51)).alloc (.cells #[.int .i64 m.node, .int .i64 m.kind, .int .i64 m.term, .int .i64 m.gen, .int .i64 m.job, .int .i64 m.inc, .int .i64 m.version, .int .i64 m.epoch, .int .i64 m.until_, .int .i64 m.mode, .int .i64 m.work] 53)) [cellsT w.heap.size 51 a.cs, cellsT (w.heap.size + 1) 53 m.cs] := St.newAt ((St.start w).newCells 51 #[.bool a.up, .int .i64 a.term, .int .i64 a.gen, .int .i64 a.mode, .int .i64 a.job, .int .i64 a.inc, .int .i64 a.version, .int .i64 a.lease, .int .i64 a.worked, .int .i64 a.to_]) _ _ _ (alloc_size _ _)
  go_enter Try.func10, Try.ntmps10
  go_wp2_with fail
  refine (alive13_any _).mono ?_
  rintro e w1 ⟨rfl, hb1⟩
  have S1 := S0.grow hb1
  clear hb1 S0
  obtain ⟨x0, x1, x2, x3, x4, x5, x6, x7, x8, x9⟩ := S1.agAt 0 rfl
  go_wp2_with fail
  refine (agRight a _).mono ?_
  rintro e w2 ⟨r, rfl, hr, hb2⟩
  have S2 := S1.grow hb2
  clear hb2 S1 x0 x1 x2 x3 x4 x5 x6 x7 x8 x9
  cases r
  · go_wp2
    go_ret
    exact ⟨rfl, S2.fin⟩
  have HA : Hid (AG.Ok a) := hr rfl
  clear hr
  obtain ⟨z0, z1, z2, z3, z4, z5, z6, z7, z8, z9, z10⟩ := S2.msg 1 rfl
  go_wp2_with fail
  refine (rright_any m _).mono ?_
  rintro e w3 ⟨rfl, hb3⟩
  have S3 := S2.grow hb3
  clear hb3 S2 z0 z1 z2 z3 z4 z5 z6 z7 z8 z9 z10
  cases m.right
  · go_wp2
    go_ret
    exact ⟨rfl, S3.fin⟩
  generalize w.heap.size + 1 = gm at *
  generalize hga : w.heap.size = ga at S3 ⊢
  clear hga
  have S5 := St.rot (l := [cellsT ga 51 a.cs, cellsT gm 53 m.cs]) S3.soNew
  clear S3
  obtain ⟨x0, x1, x2, x3, x4, x5, x6, x7, x8, x9⟩ := S5.agAt 1 rfl
  obtain ⟨z0, z1, z2, z3, z4, z5, z6, z7, z8, z9, z10⟩ := S5.msg 2 rfl
  go_wp2_with fail
  refine (agTake S5 a node m now (by decide)).mono ?_
  rintro e w6 ⟨rfl, S6⟩
  clear S5 x0 x1 x2 x3 x4 x5 x6 x7 x8 x9 z0 z1 z2 z3 z4 z5 z6 z7 z8 z9 z10
  have S7 := S6.tail
  clear S6
  rcases hT : aTake a m now none with _ | ⟨b, o'⟩
  · rw [show TakeV a node none = .tuple #[.agg #[.bool a.up, .int .i64 a.term, .int .i64 a.gen, .int .i64 a.mode, .int .i64 a.job, .int .i64 a.inc, .int .i64 a.version, .int .i64 a.lease, .int .i64 a.worked, .int .i64 a.to_], .agg #[.int .i64 0, .int .i64 0, .int .i64 0, .int .i64 0, .int .i64 0, .int .i64 0, .int .i64 0, .int .i64 0, .int .i64 0, .int .i64 0, .int .i64 0], .bool false] from rfl]
    have q1 := fun wx => eqAG a a wx
    have q2 := fun wx => eqM Msg.zero Msg.zero wx
    rw [AG.eq_self] at q1
    rw [Msg.eq_self] at q2
    have S8 := (S7.alloc (.cells #[.bool a.up, .int .i64 a.term, .int .i64 a.gen, .int .i64 a.mode, .int .i64 a.job, .int .i64 a.inc, .int .i64 a.version, .int .i64 a.lease, .int .i64 a.worked, .int .i64 a.to_] 51)).alloc (.cells #[.int .i64 0, .int .i64 0, .int .i64 0, .int .i64 0, .int .i64 0, .int .i64 0, .int .i64 0, .int .i64 0, .int .i64 0, .int .i64 0, .int .i64 0] 53)
    clear hT S7
    obtain ⟨x0, x1, x2, x3, x4, x5, x6, x7, x8, x9⟩ := S8.agAt 0 rfl
    go_wp2
    go_ret
    exact ⟨rfl, S8.fin⟩
  · obtain ⟨ht, ho⟩ := aTake_some hT
    have hk := oOrder_keeps { a with term := m.term, gen := m.gen } m now none
    rw [ho] at hk
    have e1 : (b.term == m.term) = true := beq_iff_eq.2 hk.1
    have e2 : (b.gen == m.gen) = true := beq_iff_eq.2 hk.2.1
    clear hT ht ho hk
    rw [show TakeV a node (some (b, o')) = .tuple #[.agg #[.bool b.up, .int .i64 b.term, .int .i64 b.gen, .int .i64 b.mode, .int .i64 b.job, .int .i64 b.inc, .int .i64 b.version, .int .i64 b.lease, .int .i64 b.worked, .int .i64 b.to_], .agg (aTell b node).cs.toArray, .bool true] from rfl]
    rw [show (aTell b node).cs.toArray = #[.int .i64 node, .int .i64 6, .int .i64 b.term, .int .i64 b.gen, .int .i64 b.job, .int .i64 b.inc, .int .i64 b.version, .int .i64 0, .int .i64 0, .int .i64 b.mode, .int .i64 b.worked] from rfl]
    have S8 : St w (w6.alloc (.cells #[.bool b.up, .int .i64 b.term, .int .i64 b.gen, .int .i64 b.mode, .int .i64 b.job, .int .i64 b.inc, .int .i64 b.version, .int .i64 b.lease, .int .i64 b.worked, .int .i64 b.to_] 51)) [cellsT ga 51 a.cs, cellsT gm 53 m.cs, cellsT w6.heap.size 51 b.cs] := S7.newAt _ _ _ rfl
    have S9 : St w ((w6.alloc (.cells #[.bool b.up, .int .i64 b.term, .int .i64 b.gen, .int .i64 b.mode, .int .i64 b.job, .int .i64 b.inc, .int .i64 b.version, .int .i64 b.lease, .int .i64 b.worked, .int .i64 b.to_] 51)).alloc (.cells #[.int .i64 node, .int .i64 6, .int .i64 b.term, .int .i64 b.gen, .int .i64 b.job, .int .i64 b.inc, .int .i64 b.version, .int .i64 0, .int .i64 0, .int .i64 b.mode, .int .i64 b.worked] 53)) [cellsT ga 51 a.cs, cellsT gm 53 m.cs, cellsT w6.heap.size 51 b.cs, cellsT (w6.heap.size + 1) 53 (aTell b node).cs] := S8.newAt _ _ _ (alloc_size _ _)
    have q2 := fun wx => eqM (aTell b node) (aTell b node) wx
    rw [Msg.eq_self] at q2
    clear S7 S8
    go_wp2_with fail
    refine wp_region_held_drew (S := (fun w' => (w'.cell? ⟨gm, 0, none⟩ = some (.int .i64 m.node) ∧ w'.cell? ⟨gm, 1, none⟩ = some (.int .i64 m.kind) ∧ w'.cell? ⟨gm, 2, none⟩ = some (.int .i64 m.term) ∧ w'.cell? ⟨gm, 3, none⟩ = some (.int .i64 m.gen) ∧ w'.cell? ⟨gm, 4, none⟩ = some (.int .i64 m.job) ∧ w'.cell? ⟨gm, 5, none⟩ = some (.int .i64 m.inc) ∧ w'.cell? ⟨gm, 6, none⟩ = some (.int .i64 m.version) ∧ w'.cell? ⟨gm, 7, none⟩ = some (.int .i64 m.epoch) ∧ w'.cell? ⟨gm, 8, none⟩ = some (.int .i64 m.until_) ∧ w'.cell? ⟨gm, 9, none⟩ = some (.int .i64 m.mode) ∧ w'.cell? ⟨gm, 10, none⟩ = some (.int .i64 m.work)) ∧ (w'.cell? ⟨w6.heap.size, 0, none⟩ = some (.bool b.up) ∧ w'.cell? ⟨w6.heap.size, 1, none⟩ = some (.int .i64 b.term) ∧ w'.cell? ⟨w6.heap.size, 2, none⟩ = some (.int .i64 b.gen) ∧ w'.cell? ⟨w6.heap.size, 3, none⟩ = some (.int .i64 b.mode) ∧ w'.cell? ⟨w6.heap.size, 4, none⟩ = some (.int .i64 b.job) ∧ w'.cell? ⟨w6.heap.size, 5, none⟩ = some (.int .i64 b.inc) ∧ w'.cell? ⟨w6.heap.size, 6, none⟩ = some (.int .i64 b.version) ∧ w'.cell? ⟨w6.heap.size, 7, none⟩ = some (.int .i64 b.lease) ∧ w'.cell? ⟨w6.heap.size, 8, none⟩ = some (.int .i64 b.worked) ∧ w'.cell? ⟨w6.heap.size, 9, none⟩ = some (.int .i64 b.to_)) ∧ (w'.cell? ⟨w6.heap.size + 1, 0, none⟩ = some (.int .i64 node) ∧ w'.cell? ⟨w6.heap.size + 1, 1, none⟩ = some (.int .i64 6) ∧ w'.cell? ⟨w6.heap.size + 1, 2, none⟩ = some (.int .i64 b.term) ∧ w'.cell? ⟨w6.heap.size + 1, 3, none⟩ = some (.int .i64 b.gen) ∧ w'.cell? ⟨w6.heap.size + 1, 4, none⟩ = some (.int .i64 b.job) ∧ w'.cell? ⟨w6.heap.size + 1, 5, none⟩ = some (.int .i64 b.inc) ∧ w'.cell? ⟨w6.heap.size + 1, 6, none⟩ = some (.int .i64 b.version) ∧ w'.cell? ⟨w6.heap.size + 1, 7, none⟩ = some (.int .i64 0) ∧ w'.cell? ⟨w6.heap.size + 1, 8, none⟩ = some (.int .i64 0) ∧ w'.cell? ⟨w6.heap.size + 1, 9, none⟩ = some (.int .i64 b.mode) ∧ w'.cell? ⟨w6.heap.size + 1, 10, none⟩ = some (.int .i64 b.worked)))) (by kernel_rfl) (by exact ⟨S9.drew.msg 1 rfl, S9.drew.agAt 2 rfl, S9.drew.msg 3 rfl⟩) (fun hHeld => ?_)
    change wpAnyH _ _ _ _ _ 71 (Array.replicate 71 false) _ _
    refine wpAnyH_take (i := 0) (v := ?v16) (ops_at rfl) (by kernel_rfl) (by kernel_rfl) (by kernel_rfl) (fun _ _ _ h => h) (Or.inl ⟨by rfl, ?hy16⟩) (by assumption) ?rest16
    case hy16 => intro w' hSw; (try dsimp only at hSw); go_simp; try with_reducible rfl
    try simp only [Act.put, List.setIfInBounds_toArray, List.set_cons_zero, List.set_cons_succ]
    refine wpAnyH_take (i := 1) (v := ?v17) (ops_at rfl) (by kernel_rfl) (by kernel_rfl) (by kernel_rfl) (fun _ _ _ h => h) (Or.inl ⟨by rfl, ?hy17⟩) (by assumption) ?rest17
    case hy17 => intro w' hSw; (try dsimp only at hSw); go_simp; try with_reducible rfl
    try simp only [Act.put, List.setIfInBounds_toArray, List.set_cons_zero, List.set_cons_succ]
    refine wpAnyH_take (i := 2) (v := ?v18) (ops_at rfl) (by kernel_rfl) (by kernel_rfl) (by kernel_rfl) (fun _ _ _ h => h) (Or.inl ⟨by rfl, ?hy18⟩) (by assumption) ?rest18
    case hy18 => intro w' hSw; (try dsimp only at hSw); go_simp; try with_reducible rfl
    try simp only [Act.put, List.setIfInBounds_toArray, List.set_cons_zero, List.set_cons_succ]
    refine wpAnyH_ready (rs := [3]) (by kernel_rfl) (by simp) ?_
    refine AllReadyH.cons (ops_at rfl) (fun K hK => ?_) AllReadyH.nil
    go_simp
    refine (agTell b node _).mono ?_
    rintro e w10 ⟨rfl, hb10⟩
    rw [show (aTell b node).v = .agg #[.int .i64 node, .int .i64 6, .int .i64 b.term, .int .i64 b.gen, .int .i64 b.job, .int .i64 b.inc, .int .i64 b.version, .int .i64 0, .int .i64 0, .int .i64 b.mode, .int .i64 b.worked] from rfl]
    have S10 := S9.drew.grow hb10
    clear hb10
    refine hK.out _ _ (by exact ⟨S10.msg 1 rfl, S10.agAt 2 rfl, S10.msg 3 rfl⟩) (fun hHeld => ?_)
    clear hK K
    try simp only [Act.put, List.setIfInBounds_toArray, List.set_cons_zero, List.set_cons_succ]
    refine wpAnyH_take (i := 4) (v := ?v20) (ops_at rfl) (by kernel_rfl) (by kernel_rfl) (by kernel_rfl) (fun _ _ _ h => h) (Or.inl ⟨by rfl, ?hy20⟩) (by assumption) ?rest20
    case hy20 => intro w' hSw; (try dsimp only at hSw); go_simp; try with_reducible rfl
    try simp only [Act.put, List.setIfInBounds_toArray, List.set_cons_zero, List.set_cons_succ]
    refine wpAnyH_take (i := 5) (v := ?v21) (ops_at rfl) (by kernel_rfl) (by kernel_rfl) (by kernel_rfl) (fun _ _ _ h => h) (Or.inl ⟨by rfl, ?hy21⟩) (by assumption) ?rest21
    case hy21 => intro w' hSw; (try dsimp only at hSw); go_simp; try with_reducible rfl
    try simp only [Act.put, List.setIfInBounds_toArray, List.set_cons_zero, List.set_cons_succ]
    refine wpAnyH_take (i := 6) (v := ?v22) (ops_at rfl) (by kernel_rfl) (by kernel_rfl) (by kernel_rfl) (fun _ _ _ h => h) (Or.inl ⟨by rfl, ?hy22⟩) (by assumption) ?rest22
    case hy22 => intro w' hSw; (try dsimp only at hSw); go_simp; try with_reducible rfl
    try simp only [Act.put, List.setIfInBounds_toArray, List.set_cons_zero, List.set_cons_succ]
    refine wpAnyH_take (i := 7) (v := ?v23) (ops_at rfl) (by kernel_rfl) (by kernel_rfl) (by kernel_rfl) (fun _ _ _ h => h) (Or.inl ⟨by rfl, ?hy23⟩) (by assumption) ?rest23
    case hy23 => intro w' hSw; (try dsimp only at hSw); go_simp; try with_reducible rfl
    try simp only [Act.put, List.setIfInBounds_toArray, List.set_cons_zero, List.set_cons_succ]
    refine wpAnyH_take (i := 8) (v := ?v24) (ops_at rfl) (by kernel_rfl) (by kernel_rfl) (by kernel_rfl) (fun _ _ _ h => h) (Or.inl ⟨by rfl, ?hy24⟩) (by assumption) ?rest24
    case hy24 => intro w' hSw; (try dsimp only at hSw); go_simp; try with_reducible rfl
    try simp only [Act.put, List.setIfInBounds_toArray, List.set_cons_zero, List.set_cons_succ]
    refine wpAnyH_take (i := 9) (v := ?v25) (ops_at rfl) (by kernel_rfl) (by kernel_rfl) (by kernel_rfl) (fun _ _ _ h => h) (Or.inl ⟨by rfl, ?hy25⟩) (by assumption) ?rest25
    case hy25 => intro w' hSw; (try dsimp only at hSw); go_simp; try with_reducible rfl
    try simp only [Act.put, List.setIfInBounds_toArray, List.set_cons_zero, List.set_cons_succ]
    refine wpAnyH_take (i := 10) (v := ?v26) (ops_at rfl) (by kernel_rfl) (by kernel_rfl) (by kernel_rfl) (fun _ _ _ h => h) (Or.inl ⟨by rfl, ?hy26⟩) (by assumption) ?rest26
    case hy26 => intro w' hSw; (try dsimp only at hSw); go_simp; try with_reducible rfl
    try simp only [Act.put, List.setIfInBounds_toArray, List.set_cons_zero, List.set_cons_succ]
    refine wpAnyH_take (i := 11) (v := ?v27) (ops_at rfl) (by kernel_rfl) (by kernel_rfl) (by kernel_rfl) (fun _ _ _ h => h) (Or.inl ⟨by rfl, ?hy27⟩) (by assumption) ?rest27
    case hy27 => intro w' hSw; (try dsimp only at hSw); go_simp; try with_reducible rfl
    try simp only [Act.put, List.setIfInBounds_toArray, List.set_cons_zero, List.set_cons_succ]
    refine wpAnyH_take (i := 12) (v := ?v28) (ops_at rfl) (by kernel_rfl) (by kernel_rfl) (by kernel_rfl) (fun _ _ _ h => h) (Or.inl ⟨by rfl, ?hy28⟩) (by assumption) ?rest28
    case hy28 => intro w' hSw; (try dsimp only at hSw); go_simp; try with_reducible rfl
    try simp only [Act.put, List.setIfInBounds_toArray, List.set_cons_zero, List.set_cons_succ]
    refine wpAnyH_take (i := 13) (v := ?v29) (ops_at rfl) (by kernel_rfl) (by kernel_rfl) (by kernel_rfl) (fun _ _ _ h => h) (Or.inl ⟨by rfl, ?hy29⟩) (by assumption) ?rest29
    case hy29 => intro w' hSw; (try dsimp only at hSw); go_simp; try with_reducible rfl
    try simp only [Act.put, List.setIfInBounds_toArray, List.set_cons_zero, List.set_cons_succ]
    refine wpAnyH_take (i := 14) (v := ?v30) (ops_at rfl) (by kernel_rfl) (by kernel_rfl) (by kernel_rfl) (fun _ _ _ h => h) (Or.inl ⟨by rfl, ?hy30⟩) (by assumption) ?rest30
    case hy30 => intro w' hSw; (try dsimp only at hSw); go_simp; try with_reducible rfl
    try simp only [Act.put, List.setIfInBounds_toArray, List.set_cons_zero, List.set_cons_succ]
    refine wpAnyH_take (i := 15) (v := ?v31) (ops_at rfl) (by kernel_rfl) (by kernel_rfl) (by kernel_rfl) (fun _ _ _ h => h) (Or.inl ⟨by rfl, ?hy31⟩) (by assumption) ?rest31
    case hy31 => intro w' hSw; (try dsimp only at hSw); go_simp; try with_reducible rfl
    try simp only [Act.put, List.setIfInBounds_toArray, List.set_cons_zero, List.set_cons_succ]
    refine wpAnyH_take (i := 16) (v := ?v32) (ops_at rfl) (by kernel_rfl) (by kernel_rfl) (by kernel_rfl) (fun _ _ _ h => h) (Or.inl ⟨by rfl, ?hy32⟩) (by assumption) ?rest32
    case hy32 => intro w' hSw; (try dsimp only at hSw); go_simp; try with_reducible rfl
    try simp only [Act.put, List.setIfInBounds_toArray, List.set_cons_zero, List.set_cons_succ]
    refine wpAnyH_take (i := 17) (v := ?v33) (ops_at rfl) (by kernel_rfl) (by kernel_rfl) (by kernel_rfl) (fun _ _ _ h => h) (Or.inl ⟨by rfl, ?hy33⟩) (by assumption) ?rest33
    case hy33 => intro w' hSw; (try dsimp only at hSw); go_simp; try with_reducible rfl
    try simp only [Act.put, List.setIfInBounds_toArray, List.set_cons_zero, List.set_cons_succ]
    refine wpAnyH_take (i := 18) (v := ?v34) (ops_at rfl) (by kernel_rfl) (by kernel_rfl) (by kernel_rfl) (fun _ _ _ h => h) (Or.inl ⟨by rfl, ?hy34⟩) (by assumption) ?rest34
    case hy34 => intro w' hSw; (try dsimp only at hSw); go_simp; try with_reducible rfl
    try simp only [Act.put, List.setIfInBounds_toArray, List.set_cons_zero, List.set_cons_succ]
    refine wpAnyH_take (i := 19) (v := ?v35) (ops_at rfl) (by kernel_rfl) (by kernel_rfl) (by kernel_rfl) (fun _ _ _ h => h) (Or.inl ⟨by rfl, ?hy35⟩) (by assumption) ?rest35
    case hy35 => intro w' hSw; (try dsimp only at hSw); go_simp; try with_reducible rfl
    try simp only [Act.put, List.setIfInBounds_toArray, List.set_cons_zero, List.set_cons_succ]
    refine wpAnyH_take (i := 20) (v := ?v36) (ops_at rfl) (by kernel_rfl) (by kernel_rfl) (by kernel_rfl) (fun _ _ _ h => h) (Or.inl ⟨by rfl, ?hy36⟩) (by assumption) ?rest36
    case hy36 => intro w' hSw; (try dsimp only at hSw); go_simp; try with_reducible rfl
    try simp only [Act.put, List.setIfInBounds_toArray, List.set_cons_zero, List.set_cons_succ]
    refine wpAnyH_take (i := 21) (v := ?v37) (ops_at rfl) (by kernel_rfl) (by kernel_rfl) (by kernel_rfl) (fun _ _ _ h => h) (Or.inl ⟨by rfl, ?hy37⟩) (by assumption) ?rest37
    case hy37 => intro w' hSw; (try dsimp only at hSw); go_simp; try with_reducible rfl
    try simp only [Act.put, List.setIfInBounds_toArray, List.set_cons_zero, List.set_cons_succ]
    refine wpAnyH_take (i := 22) (v := ?v38) (ops_at rfl) (by kernel_rfl) (by kernel_rfl) (by kernel_rfl) (fun _ _ _ h => h) (Or.inl ⟨by rfl, ?hy38⟩) (by assumption) ?rest38
    case hy38 => intro w' hSw; (try dsimp only at hSw); go_simp; try with_reducible rfl
    try simp only [Act.put, List.setIfInBounds_toArray, List.set_cons_zero, List.set_cons_succ]
    refine wpAnyH_take (i := 23) (v := ?v39) (ops_at rfl) (by kernel_rfl) (by kernel_rfl) (by kernel_rfl) (fun _ _ _ h => h) (Or.inl ⟨by rfl, ?hy39⟩) (by assumption) ?rest39
    case hy39 => intro w' hSw; (try dsimp only at hSw); go_simp; try with_reducible rfl
    try simp only [Act.put, List.setIfInBounds_toArray, List.set_cons_zero, List.set_cons_succ]
    refine wpAnyH_take (i := 24) (v := ?v40) (ops_at rfl) (by kernel_rfl) (by kernel_rfl) (by kernel_rfl) (fun _ _ _ h => h) (Or.inl ⟨by rfl, ?hy40⟩) (by assumption) ?rest40
    case hy40 => intro w' hSw; (try dsimp only at hSw); go_simp; try with_reducible rfl
    try simp only [Act.put, List.setIfInBounds_toArray, List.set_cons_zero, List.set_cons_succ]
    refine wpAnyH_take (i := 25) (v := ?v41) (ops_at rfl) (by kernel_rfl) (by kernel_rfl) (by kernel_rfl) (fun _ _ _ h => h) (Or.inl ⟨by rfl, ?hy41⟩) (by assumption) ?rest41
    case hy41 => intro w' hSw; (try dsimp only at hSw); go_simp; try with_reducible rfl
    try simp only [Act.put, List.setIfInBounds_toArray, List.set_cons_zero, List.set_cons_succ]
    refine wpAnyH_take (i := 26) (v := ?v42) (ops_at rfl) (by kernel_rfl) (by kernel_rfl) (by kernel_rfl) (fun _ _ _ h => h) (Or.inl ⟨by rfl, ?hy42⟩) (by assumption) ?rest42
    case hy42 => intro w' hSw; (try dsimp only at hSw); go_simp; try with_reducible rfl
    try simp only [Act.put, List.setIfInBounds_toArray, List.set_cons_zero, List.set_cons_succ]
    refine wpAnyH_take (i := 27) (v := ?v43) (ops_at rfl) (by kernel_rfl) (by kernel_rfl) (by kernel_rfl) (fun _ _ _ h => h) (Or.inl ⟨by rfl, ?hy43⟩) (by assumption) ?rest43
    case hy43 => intro w' hSw; (try dsimp only at hSw); go_simp; try with_reducible rfl
    try simp only [Act.put, List.setIfInBounds_toArray, List.set_cons_zero, List.set_cons_succ]
    refine wpAnyH_take (i := 28) (v := ?v44) (ops_at rfl) (by kernel_rfl) (by kernel_rfl) (by kernel_rfl) (fun _ _ _ h => h) (Or.inl ⟨by rfl, ?hy44⟩) (by assumption) ?rest44
    case hy44 => intro w' hSw; (try dsimp only at hSw); go_simp; try with_reducible rfl
    try simp only [Act.put, List.setIfInBounds_toArray, List.set_cons_zero, List.set_cons_succ]
    refine wpAnyH_take (i := 29) (v := ?v45) (ops_at rfl) (by kernel_rfl) (by kernel_rfl) (by kernel_rfl) (fun _ _ _ h => h) (Or.inl ⟨by rfl, ?hy45⟩) (by assumption) ?rest45
    case hy45 => intro w' hSw; (try dsimp only at hSw); go_simp; try with_reducible rfl
    try simp only [Act.put, List.setIfInBounds_toArray, List.set_cons_zero, List.set_cons_succ]
    refine wpAnyH_take (i := 30) (v := ?v46) (ops_at rfl) (by kernel_rfl) (by kernel_rfl) (by kernel_rfl) (fun _ _ _ h => h) (Or.inl ⟨by rfl, ?hy46⟩) (by assumption) ?rest46
    case hy46 => intro w' hSw; (try dsimp only at hSw); go_simp; try with_reducible rfl
    try simp only [Act.put, List.setIfInBounds_toArray, List.set_cons_zero, List.set_cons_succ]
    refine wpAnyH_take (i := 31) (v := ?v47) (ops_at rfl) (by kernel_rfl) (by kernel_rfl) (by kernel_rfl) (fun _ _ _ h => h) (Or.inl ⟨by rfl, ?hy47⟩) (by assumption) ?rest47
    case hy47 => intro w' hSw; (try dsimp only at hSw); go_simp; try with_reducible rfl
    try simp only [Act.put, List.setIfInBounds_toArray, List.set_cons_zero, List.set_cons_succ]
    refine wpAnyH_take (i := 32) (v := ?v48) (ops_at rfl) (by kernel_rfl) (by kernel_rfl) (by kernel_rfl) (fun _ _ _ h => h) (Or.inl ⟨by rfl, ?hy48⟩) (by assumption) ?rest48
    case hy48 => intro w' hSw; (try dsimp only at hSw); go_simp; try with_reducible rfl
    try simp only [Act.put, List.setIfInBounds_toArray, List.set_cons_zero, List.set_cons_succ]
    refine wpAnyH_take (i := 33) (v := ?v49) (ops_at rfl) (by kernel_rfl) (by kernel_rfl) (by kernel_rfl) (fun _ _ _ h => h) (Or.inl ⟨by rfl, ?hy49⟩) (by assumption) ?rest49
    case hy49 => intro w' hSw; (try dsimp only at hSw); go_simp; try with_reducible rfl
    try simp only [Act.put, List.setIfInBounds_toArray, List.set_cons_zero, List.set_cons_succ]
    refine wpAnyH_take (i := 34) (v := ?v50) (ops_at rfl) (by kernel_rfl) (by kernel_rfl) (by kernel_rfl) (fun _ _ _ h => h) (Or.inl ⟨by rfl, ?hy50⟩) (by assumption) ?rest50
    case hy50 => intro w' hSw; (try dsimp only at hSw); go_simp; try with_reducible rfl
    try simp only [Act.put, List.setIfInBounds_toArray, List.set_cons_zero, List.set_cons_succ]
    refine wpAnyH_take (i := 35) (v := ?v51) (ops_at rfl) (by kernel_rfl) (by kernel_rfl) (by kernel_rfl) (fun _ _ _ h => h) (Or.inl ⟨by rfl, ?hy51⟩) (by assumption) ?rest51
    case hy51 => intro w' hSw; (try dsimp only at hSw); go_simp; try with_reducible rfl
    try simp only [Act.put, List.setIfInBounds_toArray, List.set_cons_zero, List.set_cons_succ]
    refine wpAnyH_take (i := 36) (v := ?v52) (ops_at rfl) (by kernel_rfl) (by kernel_rfl) (by kernel_rfl) (fun _ _ _ h => h) (Or.inl ⟨by rfl, ?hy52⟩) (by assumption) ?rest52
    case hy52 => intro w' hSw; (try dsimp only at hSw); go_simp; try with_reducible rfl
    try simp only [Act.put, List.setIfInBounds_toArray, List.set_cons_zero, List.set_cons_succ]
    refine wpAnyH_take (i := 37) (v := ?v53) (ops_at rfl) (by kernel_rfl) (by kernel_rfl) (by kernel_rfl) (fun _ _ _ h => h) (Or.inl ⟨by rfl, ?hy53⟩) (by assumption) ?rest53
    case hy53 => intro w' hSw; (try dsimp only at hSw); go_simp; try with_reducible rfl
    try simp only [Act.put, List.setIfInBounds_toArray, List.set_cons_zero, List.set_cons_succ]
    refine wpAnyH_take (i := 38) (v := ?v54) (ops_at rfl) (by kernel_rfl) (by kernel_rfl) (by kernel_rfl) (fun _ _ _ h => h) (Or.inl ⟨by rfl, ?hy54⟩) (by assumption) ?rest54
    case hy54 => intro w' hSw; (try dsimp only at hSw); go_simp; try with_reducible rfl
    try simp only [Act.put, List.setIfInBounds_toArray, List.set_cons_zero, List.set_cons_succ]
    refine wpAnyH_take (i := 39) (v := ?v55) (ops_at rfl) (by kernel_rfl) (by kernel_rfl) (by kernel_rfl) (fun _ _ _ h => h) (Or.inl ⟨by rfl, ?hy55⟩) (by assumption) ?rest55
    case hy55 => intro w' hSw; (try dsimp only at hSw); go_simp; try with_reducible rfl
    try simp only [Act.put, List.setIfInBounds_toArray, List.set_cons_zero, List.set_cons_succ]
    refine wpAnyH_take (i := 40) (v := ?v56) (ops_at rfl) (by kernel_rfl) (by kernel_rfl) (by kernel_rfl) (fun _ _ _ h => h) (Or.inl ⟨by rfl, ?hy56⟩) (by assumption) ?rest56
    case hy56 => intro w' hSw; (try dsimp only at hSw); go_simp; try with_reducible rfl
    try simp only [Act.put, List.setIfInBounds_toArray, List.set_cons_zero, List.set_cons_succ]
    refine wpAnyH_take (i := 41) (v := ?v57) (ops_at rfl) (by kernel_rfl) (by kernel_rfl) (by kernel_rfl) (fun _ _ _ h => h) (Or.inl ⟨by rfl, ?hy57⟩) (by assumption) ?rest57
    case hy57 => intro w' hSw; (try dsimp only at hSw); go_simp; try with_reducible rfl
    try simp only [Act.put, List.setIfInBounds_toArray, List.set_cons_zero, List.set_cons_succ]
    refine wpAnyH_take (i := 42) (v := ?v58) (ops_at rfl) (by kernel_rfl) (by kernel_rfl) (by kernel_rfl) (fun _ _ _ h => h) (Or.inl ⟨by rfl, ?hy58⟩) (by assumption) ?rest58
    case hy58 => intro w' hSw; (try dsimp only at hSw); go_simp; try with_reducible rfl
    try simp only [Act.put, List.setIfInBounds_toArray, List.set_cons_zero, List.set_cons_succ]
    refine wpAnyH_take (i := 43) (v := ?v59) (ops_at rfl) (by kernel_rfl) (by kernel_rfl) (by kernel_rfl) (fun _ _ _ h => h) (Or.inl ⟨by rfl, ?hy59⟩) (by assumption) ?rest59
    case hy59 => intro w' hSw; (try dsimp only at hSw); go_simp; try with_reducible rfl
    try simp only [Act.put, List.setIfInBounds_toArray, List.set_cons_zero, List.set_cons_succ]
    refine wpAnyH_take (i := 44) (v := ?v60) (ops_at rfl) (by kernel_rfl) (by kernel_rfl) (by kernel_rfl) (fun _ _ _ h => h) (Or.inl ⟨by rfl, ?hy60⟩) (by assumption) ?rest60
    case hy60 => intro w' hSw; (try dsimp only at hSw); go_simp; try with_reducible rfl
    try simp only [Act.put, List.setIfInBounds_toArray, List.set_cons_zero, List.set_cons_succ]
    refine wpAnyH_take (i := 45) (v := ?v61) (ops_at rfl) (by kernel_rfl) (by kernel_rfl) (by kernel_rfl) (fun _ _ _ h => h) (Or.inl ⟨by rfl, ?hy61⟩) (by assumption) ?rest61
    case hy61 => intro w' hSw; (try dsimp only at hSw); go_simp; try with_reducible rfl
    try simp only [Act.put, List.setIfInBounds_toArray, List.set_cons_zero, List.set_cons_succ]
    refine wpAnyH_take (i := 46) (v := ?v62) (ops_at rfl) (by kernel_rfl) (by kernel_rfl) (by kernel_rfl) (fun _ _ _ h => h) (Or.inl ⟨by rfl, ?hy62⟩) (by assumption) ?rest62
    case hy62 => intro w' hSw; (try dsimp only at hSw); go_simp; try with_reducible rfl
    try simp only [Act.put, List.setIfInBounds_toArray, List.set_cons_zero, List.set_cons_succ]
    refine wpAnyH_take (i := 47) (v := ?v63) (ops_at rfl) (by kernel_rfl) (by kernel_rfl) (by kernel_rfl) (fun _ _ _ h => h) (Or.inl ⟨by rfl, ?hy63⟩) (by assumption) ?rest63
    case hy63 => intro w' hSw; (try dsimp only at hSw); go_simp; try with_reducible rfl
    try simp only [Act.put, List.setIfInBounds_toArray, List.set_cons_zero, List.set_cons_succ]
    refine wpAnyH_take (i := 48) (v := ?v64) (ops_at rfl) (by kernel_rfl) (by kernel_rfl) (by kernel_rfl) (fun _ _ _ h => h) (Or.inl ⟨by rfl, ?hy64⟩) (by assumption) ?rest64
    case hy64 => intro w' hSw; (try dsimp only at hSw); go_simp; try with_reducible rfl
    try simp only [Act.put, List.setIfInBounds_toArray, List.set_cons_zero, List.set_cons_succ]
    refine wpAnyH_take (i := 49) (v := ?v65) (ops_at rfl) (by kernel_rfl) (by kernel_rfl) (by kernel_rfl) (fun _ _ _ h => h) (Or.inl ⟨by rfl, ?hy65⟩) (by assumption) ?rest65
    case hy65 => intro w' hSw; (try dsimp only at hSw); go_simp; try with_reducible rfl
    try simp only [Act.put, List.setIfInBounds_toArray, List.set_cons_zero, List.set_cons_succ]
    refine wpAnyH_take (i := 50) (v := ?v66) (ops_at rfl) (by kernel_rfl) (by kernel_rfl) (by kernel_rfl) (fun _ _ _ h => h) (Or.inl ⟨by rfl, ?hy66⟩) (by assumption) ?rest66
    case hy66 => intro w' hSw; (try dsimp only at hSw); go_simp; try with_reducible rfl
    try simp only [Act.put, List.setIfInBounds_toArray, List.set_cons_zero, List.set_cons_succ]
    refine wpAnyH_take (i := 51) (v := ?v67) (ops_at rfl) (by kernel_rfl) (by kernel_rfl) (by kernel_rfl) (fun _ _ _ h => h) (Or.inl ⟨by rfl, ?hy67⟩) (by assumption) ?rest67
    case hy67 => intro w' hSw; (try dsimp only at hSw); go_simp; try with_reducible rfl
    try simp only [Act.put, List.setIfInBounds_toArray, List.set_cons_zero, List.set_cons_succ]
    refine wpAnyH_take (i := 52) (v := ?v68) (ops_at rfl) (by kernel_rfl) (by kernel_rfl) (by kernel_rfl) (fun _ _ _ h => h) (Or.inl ⟨by rfl, ?hy68⟩) (by assumption) ?rest68
    case hy68 => intro w' hSw; (try dsimp only at hSw); go_simp; try with_reducible rfl
    try simp only [Act.put, List.setIfInBounds_toArray, List.set_cons_zero, List.set_cons_succ]
    refine wpAnyH_take (i := 53) (v := ?v69) (ops_at rfl) (by kernel_rfl) (by kernel_rfl) (by kernel_rfl) (fun _ _ _ h => h) (Or.inl ⟨by rfl, ?hy69⟩) (by assumption) ?rest69
    case hy69 => intro w' hSw; (try dsimp only at hSw); go_simp; try with_reducible rfl
    try simp only [Act.put, List.setIfInBounds_toArray, List.set_cons_zero, List.set_cons_succ]
    refine wpAnyH_take (i := 54) (v := ?v70) (ops_at rfl) (by kernel_rfl) (by kernel_rfl) (by kernel_rfl) (fun _ _ _ h => h) (Or.inl ⟨by rfl, ?hy70⟩) (by assumption) ?rest70
    case hy70 => intro w' hSw; (try dsimp only at hSw); go_simp; try with_reducible rfl
    try simp only [Act.put, List.setIfInBounds_toArray, List.set_cons_zero, List.set_cons_succ]
    refine wpAnyH_take (i := 55) (v := ?v71) (ops_at rfl) (by kernel_rfl) (by kernel_rfl) (by kernel_rfl) (fun _ _ _ h => h) (Or.inl ⟨by rfl, ?hy71⟩) (by assumption) ?rest71
    case hy71 => intro w' hSw; (try dsimp only at hSw); go_simp; try with_reducible rfl
    try simp only [Act.put, List.setIfInBounds_toArray, List.set_cons_zero, List.set_cons_succ]
    refine wpAnyH_take (i := 56) (v := ?v72) (ops_at rfl) (by kernel_rfl) (by kernel_rfl) (by kernel_rfl) (fun _ _ _ h => h) (Or.inl ⟨by rfl, ?hy72⟩) (by assumption) ?rest72
    case hy72 => intro w' hSw; (try dsimp only at hSw); go_simp; try with_reducible rfl
    try simp only [Act.put, List.setIfInBounds_toArray, List.set_cons_zero, List.set_cons_succ]
    refine wpAnyH_take (i := 57) (v := ?v73) (ops_at rfl) (by kernel_rfl) (by kernel_rfl) (by kernel_rfl) (fun _ _ _ h => h) (Or.inl ⟨by rfl, ?hy73⟩) (by assumption) ?rest73
    case hy73 => intro w' hSw; (try dsimp only at hSw); go_simp; try with_reducible rfl
    try simp only [Act.put, List.setIfInBounds_toArray, List.set_cons_zero, List.set_cons_succ]
    refine wpAnyH_take (i := 58) (v := ?v74) (ops_at rfl) (by kernel_rfl) (by kernel_rfl) (by kernel_rfl) (fun _ _ _ h => h) (Or.inl ⟨by rfl, ?hy74⟩) (by assumption) ?rest74
    case hy74 => intro w' hSw; (try dsimp only at hSw); go_simp; try with_reducible rfl
    try simp only [Act.put, List.setIfInBounds_toArray, List.set_cons_zero, List.set_cons_succ]
    refine wpAnyH_take (i := 59) (v := ?v75) (ops_at rfl) (by kernel_rfl) (by kernel_rfl) (by kernel_rfl) (fun _ _ _ h => h) (Or.inl ⟨by rfl, ?hy75⟩) (by assumption) ?rest75
    case hy75 => intro w' hSw; (try dsimp only at hSw); go_simp; try with_reducible rfl
    try simp only [Act.put, List.setIfInBounds_toArray, List.set_cons_zero, List.set_cons_succ]
    refine wpAnyH_take (i := 60) (v := ?v76) (ops_at rfl) (by kernel_rfl) (by kernel_rfl) (by kernel_rfl) (fun _ _ _ h => h) (Or.inl ⟨by rfl, ?hy76⟩) (by assumption) ?rest76
    case hy76 => intro w' hSw; (try dsimp only at hSw); go_simp; try with_reducible rfl
    try simp only [Act.put, List.setIfInBounds_toArray, List.set_cons_zero, List.set_cons_succ]
    refine wpAnyH_take (i := 61) (v := ?v77) (ops_at rfl) (by kernel_rfl) (by kernel_rfl) (by kernel_rfl) (fun _ _ _ h => h) (Or.inl ⟨by rfl, ?hy77⟩) (by assumption) ?rest77
    case hy77 => intro w' hSw; (try dsimp only at hSw); go_simp; try with_reducible rfl
    try simp only [Act.put, List.setIfInBounds_toArray, List.set_cons_zero, List.set_cons_succ]
    refine wpAnyH_take (i := 62) (v := ?v78) (ops_at rfl) (by kernel_rfl) (by kernel_rfl) (by kernel_rfl) (fun _ _ _ h => h) (Or.inl ⟨by rfl, ?hy78⟩) (by assumption) ?rest78
    case hy78 => intro w' hSw; (try dsimp only at hSw); go_simp; try with_reducible rfl
    try simp only [Act.put, List.setIfInBounds_toArray, List.set_cons_zero, List.set_cons_succ]
    refine wpAnyH_take (i := 63) (v := ?v79) (ops_at rfl) (by kernel_rfl) (by kernel_rfl) (by kernel_rfl) (fun _ _ _ h => h) (Or.inl ⟨by rfl, ?hy79⟩) (by assumption) ?rest79
    case hy79 => intro w' hSw; (try dsimp only at hSw); go_simp; try with_reducible rfl
    try simp only [Act.put, List.setIfInBounds_toArray, List.set_cons_zero, List.set_cons_succ]
    refine wpAnyH_take (i := 64) (v := ?v80) (ops_at rfl) (by kernel_rfl) (by kernel_rfl) (by kernel_rfl) (fun _ _ _ h => h) (Or.inl ⟨by rfl, ?hy80⟩) (by assumption) ?rest80
    case hy80 => intro w' hSw; (try dsimp only at hSw); go_simp; try with_reducible rfl
    try simp only [Act.put, List.setIfInBounds_toArray, List.set_cons_zero, List.set_cons_succ]
    refine wpAnyH_take (i := 65) (v := ?v81) (ops_at rfl) (by kernel_rfl) (by kernel_rfl) (by kernel_rfl) (fun _ _ _ h => h) (Or.inl ⟨by rfl, ?hy81⟩) (by assumption) ?rest81
    case hy81 => intro w' hSw; (try dsimp only at hSw); go_simp; try with_reducible rfl
    try simp only [Act.put, List.setIfInBounds_toArray, List.set_cons_zero, List.set_cons_succ]
    refine wpAnyH_take (i := 66) (v := ?v82) (ops_at rfl) (by kernel_rfl) (by kernel_rfl) (by kernel_rfl) (fun _ _ _ h => h) (Or.inl ⟨by rfl, ?hy82⟩) (by assumption) ?rest82
    case hy82 => intro w' hSw; (try dsimp only at hSw); go_simp; try with_reducible rfl
    try simp only [Act.put, List.setIfInBounds_toArray, List.set_cons_zero, List.set_cons_succ]
    refine wpAnyH_take (i := 67) (v := ?v83) (ops_at rfl) (by kernel_rfl) (by kernel_rfl) (by kernel_rfl) (fun _ _ _ h => h) (Or.inl ⟨by rfl, ?hy83⟩) (by assumption) ?rest83
    case hy83 => intro w' hSw; (try dsimp only at hSw); go_simp; try with_reducible rfl
    try simp only [Act.put, List.setIfInBounds_toArray, List.set_cons_zero, List.set_cons_succ]
    refine wpAnyH_take (i := 68) (v := ?v84) (ops_at rfl) (by kernel_rfl) (by kernel_rfl) (by kernel_rfl) (fun _ _ _ h => h) (Or.inl ⟨by rfl, ?hy84⟩) (by assumption) ?rest84
    case hy84 => intro w' hSw; (try dsimp only at hSw); go_simp; try with_reducible rfl
    try simp only [Act.put, List.setIfInBounds_toArray, List.set_cons_zero, List.set_cons_succ]
    refine wpAnyH_take (i := 69) (v := ?v85) (ops_at rfl) (by kernel_rfl) (by kernel_rfl) (by kernel_rfl) (fun _ _ _ h => h) (Or.inl ⟨by rfl, ?hy85⟩) (by assumption) ?rest85
    case hy85 => intro w' hSw; (try dsimp only at hSw); go_simp; try with_reducible rfl
    try simp only [Act.put, List.setIfInBounds_toArray, List.set_cons_zero, List.set_cons_succ]
    refine wpAnyH_take (i := 70) (v := ?v86) (ops_at rfl) (by kernel_rfl) (by kernel_rfl) (by kernel_rfl) (fun _ _ _ h => h) (Or.inl ⟨by rfl, ?hy86⟩) (by assumption) ?rest86
    case hy86 => intro w' hSw; (try dsimp only at hSw); go_simp; try with_reducible rfl
    try simp only [Act.put, List.setIfInBounds_toArray, List.set_cons_zero, List.set_cons_succ]
    refine wpAnyH_done (by kernel_rfl) ?_ _
    go_wp2
    go_ret
    exact ⟨rfl, S10.fin⟩
end Go.Proofs.Ytiilhfmmclhflaa

namespace Go.Proofs.Ytiilhfmmclhflaa
set_option linter.unusedVariables false
set_option linter.unusedSimpArgs false
open Go.RowKit
theorem AG.conv {H : Type} {enc : TypeId × Value → H} {w : World} {base : Nat} {spare : Nat → Bool} {held : Bool} (fuel : Nat) (cs : List Value) (x : DataW H × List MemPlace) (hl : cs.length = 10)
    (h : DataW.trod enc Try.prog w base spare held fuel 51 cs = some x) : ∃ a : AG, cs = a.cs := by
  have hC : Try.prog.cellsOf 51 = 10 := by kernel_rfl
  obtain ⟨vs, rfl, hr⟩ := open_leaves 2 (ks := [.bool, .int, .int, .int, .int, .int, .int, .int, .int, .int]) (by kernel_rfl) (hl.trans hC.symm) hC h
  obtain ⟨a1, us, e1, hr1⟩ := hr.bool
  subst e1
  clear hr
  have hr := hr1
  obtain ⟨a2, _, rfl, _, hr⟩ := hr.int
  obtain ⟨a3, _, rfl, _, hr⟩ := hr.int
  obtain ⟨a4, _, rfl, _, hr⟩ := hr.int
  obtain ⟨a5, _, rfl, _, hr⟩ := hr.int
  obtain ⟨a6, _, rfl, _, hr⟩ := hr.int
  obtain ⟨a7, _, rfl, _, hr⟩ := hr.int
  obtain ⟨a8, _, rfl, _, hr⟩ := hr.int
  obtain ⟨a9, _, rfl, _, hr⟩ := hr.int
  obtain ⟨a10, _, rfl, _, hr⟩ := hr.int
  obtain rfl := hr.nil
  exact ⟨⟨a1, a2, a3, a4, a5, a6, a7, a8, a9, a10⟩, rfl⟩
end Go.Proofs.Ytiilhfmmclhflaa
