/- The agent's laws: equality of structs of ints and truths, Right, alive. The agent's laws: alive. AgentRests, AgentLease, AgentTells. AgentLease, AgentTells. Agents that come in. -/
import Derived.Test.YtchehnkmmmnonaaTakes
namespace Go.Proofs.Ytchehnkmmmnonaa
set_option linter.unusedVariables false
set_option linter.unusedSimpArgs false
open Go.RowKit
/-- A truth or an int. -/
inductive Pr where
  | b (x : Bool)
  | i (n : Int)
  deriving DecidableEq
def Pr.v : Pr → Value
  | .b x => .bool x
  | .i n => .int .i64 n
def Pr.isI : Pr → Bool
  | .b _ => false
  | .i _ => true
theorem boolTy : Try.prog.underlying 4 = some .bool := by kernel_rfl
theorem part_bool {xs : Array Value} {i : Nat} {c : Bool} (w : World) (h : xs[i]? = some (.bool c)) : (part 4 xs i).run Try.prog w = .ok (.bool c) w := by
  unfold part
  simp [isAgg, run_underlying boolTy, h]
def mixFs : List Field → List Bool → Nat → Bool
  | [], [], _ => true
  | f :: fs, k :: ks, i => (f.name != "_") && ((if k then f.type == 3 else f.type == 4) && ((f.offset == i) && mixFs fs ks (i + 1)))
  | _, _, _ => false
theorem eqFs_mix (d : Nat) (xs ys : List Pr) (w : World) : ∀ (fs : List Field) (ks : List Bool) (i : Nat), mixFs fs ks i = true → (xs.drop i).map Pr.isI = ks → (ys.drop i).map Pr.isI = ks →
    (Op.eqFields (d + 1) (xs.map Pr.v).toArray (ys.map Pr.v).toArray fs).run Try.prog w = .ok (decide (xs.drop i = ys.drop i)) w
  | [], [], i, _, h1, h2 => by
    rw [List.map_eq_nil_iff] at h1 h2
    rw [h1, h2]
    simp [Op.eqFields]
  | [], _ :: _, i, h, _, _ => by simp [mixFs] at h
  | _ :: _, [], i, h, _, _ => by simp [mixFs] at h
  | f :: fs, k :: ks, i, hf, h1, h2 => by
    rw [mixFs, Bool.and_eq_true, Bool.and_eq_true, Bool.and_eq_true] at hf
    obtain ⟨q1, q2, q3, q4⟩ := hf
    simp only [bne_iff_ne, beq_iff_eq] at q1 q3
    have hx : i < xs.length := by
      have := congrArg List.length h1; simp at this; omega
    have hy : i < ys.length := by
      have := congrArg List.length h2; simp at this; omega
    rw [List.drop_eq_getElem_cons hx, List.map_cons, List.cons.injEq] at h1
    rw [List.drop_eq_getElem_cons hy, List.map_cons, List.cons.injEq] at h2
    have ih := eqFs_mix d xs ys w fs ks (i + 1) q4 h1.2 h2.2
    have ed : (xs.drop i = ys.drop i) ↔ (xs[i] = ys[i] ∧ xs.drop (i + 1) = ys.drop (i + 1)) := by
      rw [List.drop_eq_getElem_cons hx, List.drop_eq_getElem_cons hy]
      exact List.cons_eq_cons
    have ex : (xs.map Pr.v).toArray[i]? = some xs[i].v := by simp [hx]
    have ey : (ys.map Pr.v).toArray[i]? = some ys[i].v := by simp [hy]
    rw [Op.eqFields, if_pos q1, q3]
    obtain ⟨p1, p2⟩ := And.intro h1.1 h2.1
    cases hxi : xs[i] with
    | b x =>
      rw [hxi] at p1 ex ed
      have hk : k = false := p1.symm
      subst hk
      cases hyi : ys[i] with
      | i n => rw [hyi] at p2; cases p2
      | b y =>
        rw [hyi] at ey ed
        simp only [Bool.false_eq_true, if_false, beq_iff_eq] at q2
        rw [q2]
        simp only [Sem.run_bind, part_bool w ex, part_bool w ey, Result.andThen_ok]
        rw [run_equalIn_bool w d 4 _ _ boolTy]
        simp only [Result.andThen_ok]
        by_cases h : x = y
        · have e : (x == y) = true := by simpa using h
          rw [e]
          simp only [Bool.not_true, Bool.false_eq_true, if_false]
          rw [ih]
          congr 1
          exact decide_eq_decide.2 (by rw [ed]; exact ⟨fun h2 => ⟨by rw [h], h2⟩, fun h2 => h2.2⟩)
        · have e : (x == y) = false := by simpa using h
          rw [e, decide_eq_false (fun h2 => h (by have := (ed.1 h2).1; injection this))]
          simp
    | i x =>
      rw [hxi] at p1 ex ed
      have hk : k = true := p1.symm
      subst hk
      cases hyi : ys[i] with
      | b n => rw [hyi] at p2; cases p2
      | i y =>
        rw [hyi] at ey ed
        simp only [if_true, beq_iff_eq] at q2
        rw [q2]
        simp only [Sem.run_bind, part_int w ex, part_int w ey, Result.andThen_ok]
        rw [run_equalIn_int w d 3 .i64 .i64 _ _ intT]
        simp only [Result.andThen_ok]
        by_cases h : x = y
        · have e : (x == y) = true := by simpa using h
          rw [e]
          simp only [Bool.not_true, Bool.false_eq_true, if_false]
          rw [ih]
          congr 1
          exact decide_eq_decide.2 (by rw [ed]; exact ⟨fun h2 => ⟨by rw [h], h2⟩, fun h2 => h2.2⟩)
        · have e : (x == y) = false := by simpa using h
          rw [e, decide_eq_false (fun h2 => h (by have := (ed.1 h2).1; injection this))]
          simp
/-- Two structs of truths and ints. -/
theorem eqMix {t : TypeId} (ks : List Bool) (ht : Try.prog.underlying t = some (.struct (Try.prog.fieldsOf t))) (hp : Try.prog.stoodInHeld t = false) (hf : mixFs (Try.prog.fieldsOf t).toList ks 0 = true)
    (xs ys : List Pr) (hx : xs.map Pr.isI = ks) (hy : ys.map Pr.isI = ks) (w : World) : (binOp .eql t (.agg (xs.map Pr.v).toArray) (.agg (ys.map Pr.v).toArray)).run Try.prog w = .ok (.bool (decide (xs = ys))) w := by
  rw [run_eql_struct, run_equalIn_agg w 9999 t _ _ ht hp, eqFs_mix 9998 xs ys w _ ks 0 hf hx hy]
  rfl
theorem neMix {t : TypeId} (ks : List Bool) (ht : Try.prog.underlying t = some (.struct (Try.prog.fieldsOf t))) (hp : Try.prog.stoodInHeld t = false) (hf : mixFs (Try.prog.fieldsOf t).toList ks 0 = true)
    (xs ys : List Pr) (hx : xs.map Pr.isI = ks) (hy : ys.map Pr.isI = ks) (w : World) : (binOp .neq t (.agg (xs.map Pr.v).toArray) (.agg (ys.map Pr.v).toArray)).run Try.prog w = .ok (.bool (!decide (xs = ys))) w := by
  rw [run_neq_struct, run_equalIn_agg w 9999 t _ _ ht hp, eqFs_mix 9998 xs ys w _ ks 0 hf hx hy]
  rfl
def AG.prs (a : AG) : List Pr := [.b a.up, .i a.term, .i a.gen, .i a.mode, .i a.job, .i a.inc, .i a.version, .i a.lease, .i a.worked, .i a.to_]
def AG.eq (a b : AG) : Bool := decide (a.prs = b.prs)
theorem AG.eq_iff (a b : AG) : a.eq b = true ↔ a = b := by
  unfold AG.eq
  rw [decide_eq_true_eq]
  constructor
  · intro h
    cases a; cases b
    simp only [AG.prs, List.cons.injEq, Pr.b.injEq, Pr.i.injEq] at h
    simp [h]
  · rintro rfl; rfl
theorem AG.eq_self (a : AG) : a.eq a = true := (AG.eq_iff a a).2 rfl
theorem eqAG (a b : AG) (w : World) : (binOp .eql 23 (.agg #[.bool a.up, .int .i64 a.term, .int .i64 a.gen, .int .i64 a.mode, .int .i64 a.job, .int .i64 a.inc, .int .i64 a.version, .int .i64 a.lease, .int .i64 a.worked, .int .i64 a.to_]) (.agg #[.bool b.up, .int .i64 b.term, .int .i64 b.gen, .int .i64 b.mode, .int .i64 b.job, .int .i64 b.inc, .int .i64 b.version, .int .i64 b.lease, .int .i64 b.worked, .int .i64 b.to_])).run Try.prog w = .ok (.bool (a.eq b)) w :=
  eqMix [false, true, true, true, true, true, true, true, true, true] (by kernel_rfl) (by kernel_rfl) (by kernel_rfl) a.prs b.prs rfl rfl w
theorem neAG (a b : AG) (w : World) : (binOp .neq 23 (.agg #[.bool a.up, .int .i64 a.term, .int .i64 a.gen, .int .i64 a.mode, .int .i64 a.job, .int .i64 a.inc, .int .i64 a.version, .int .i64 a.lease, .int .i64 a.worked, .int .i64 a.to_]) (.agg #[.bool b.up, .int .i64 b.term, .int .i64 b.gen, .int .i64 b.mode, .int .i64 b.job, .int .i64 b.inc, .int .i64 b.version, .int .i64 b.lease, .int .i64 b.worked, .int .i64 b.to_])).run Try.prog w = .ok (.bool (!a.eq b)) w :=
  neMix [false, true, true, true, true, true, true, true, true, true] (by kernel_rfl) (by kernel_rfl) (by kernel_rfl) a.prs b.prs rfl rfl w
structure AG.Ok (a : AG) : Prop where
  term : 0 ≤ a.term ∧ a.term ≤ 1000000
  gen : 0 ≤ a.gen ∧ a.gen ≤ 1000000
  job : 0 ≤ a.job ∧ a.job ≤ 24
  inc : 0 ≤ a.inc ∧ a.inc ≤ 1000000
  lease : 0 ≤ a.lease ∧ a.lease ≤ 1000000
  mode : 0 ≤ a.mode ∧ a.mode ≤ 4
  version : 1 ≤ a.version ∧ a.version ≤ 9
  worked : 0 ≤ a.worked ∧ a.worked ≤ 1000000
  to_ : 0 ≤ a.to_ ∧ a.to_ ≤ 9
def RightPost (a : AG) (w : World) (e : Ending) (w' : World) : Prop := ∃ b, e = .returned (.bool b) ∧ (b = true → a.Ok) ∧ Below w.heap.size w w'
set_option maxRecDepth 10000 in
set_option maxHeartbeats 3200000 in
theorem agRight (a : AG) (w : World) : Calls Try.prog 5 #[.agg #[.bool a.up, .int .i64 a.term, .int .i64 a.gen, .int .i64 a.mode, .int .i64 a.job, .int .i64 a.inc, .int .i64 a.version, .int .i64 a.lease, .int .i64 a.worked, .int .i64 a.to_]] w (RightPost a w) := by
  have hb := ((St.start w).alloc (.cells #[.bool a.up, .int .i64 a.term, .int .i64 a.gen, .int .i64 a.mode, .int .i64 a.job, .int .i64 a.inc, .int .i64 a.version, .int .i64 a.lease, .int .i64 a.worked, .int .i64 a.to_] 23)).fin
  go_enter Try.func5, Try.ntmps5
  go_wp2
  all_goals
    go_ret
    refine ⟨_, rfl, fun h => ?_, hb⟩
    first
      | (cases h; done)
      | (simp only [decide_eq_true_eq] at h
         exact ⟨⟨by omega, by omega⟩, ⟨by omega, by omega⟩, ⟨by omega, by omega⟩, ⟨by omega, by omega⟩, ⟨by omega, by omega⟩, ⟨by omega, by omega⟩, ⟨by omega, by omega⟩, ⟨by omega, by omega⟩, ⟨by omega, by omega⟩⟩)
end Go.Proofs.Ytchehnkmmmnonaa

namespace Go.Proofs.Ytchehnkmmmnonaa
set_option linter.unusedVariables false
set_option linter.unusedSimpArgs false
open Go.RowKit
theorem St.agAt {w0 w : World} {l : List Thing} (S : St w0 w l) (k : Nat) {g : Nat} {T : TypeId} {a : AG} (h : l[k]? = some (cellsT g T a.cs)) : w.cell? ⟨g, 0, none⟩ = some (.bool a.up) ∧ w.cell? ⟨g, 1, none⟩ = some (.int .i64 a.term) ∧ w.cell? ⟨g, 2, none⟩ = some (.int .i64 a.gen) ∧ w.cell? ⟨g, 3, none⟩ = some (.int .i64 a.mode) ∧ w.cell? ⟨g, 4, none⟩ = some (.int .i64 a.job) ∧ w.cell? ⟨g, 5, none⟩ = some (.int .i64 a.inc) ∧ w.cell? ⟨g, 6, none⟩ = some (.int .i64 a.version) ∧ w.cell? ⟨g, 7, none⟩ = some (.int .i64 a.lease) ∧ w.cell? ⟨g, 8, none⟩ = some (.int .i64 a.worked) ∧ w.cell? ⟨g, 9, none⟩ = some (.int .i64 a.to_) :=
  ⟨S.cell k h 0 rfl, S.cell k h 1 rfl, S.cell k h 2 rfl, S.cell k h 3 rfl, S.cell k h 4 rfl, S.cell k h 5 rfl, S.cell k h 6 rfl, S.cell k h 7 rfl, S.cell k h 8 rfl, S.cell k h 9 rfl⟩
theorem St.agFz {w0 w : World} {l : List Thing} (S : St w0 w l) (k : Nat) {g : Nat} {T : TypeId} {cs : List Value} (h : l[k]? = some (cellsT g T cs)) : w.frozen? ⟨g, 0, none⟩ = false ∧ w.frozen? ⟨g, 1, none⟩ = false ∧ w.frozen? ⟨g, 2, none⟩ = false ∧ w.frozen? ⟨g, 3, none⟩ = false ∧ w.frozen? ⟨g, 4, none⟩ = false ∧ w.frozen? ⟨g, 5, none⟩ = false ∧ w.frozen? ⟨g, 6, none⟩ = false ∧ w.frozen? ⟨g, 7, none⟩ = false ∧ w.frozen? ⟨g, 8, none⟩ = false ∧ w.frozen? ⟨g, 9, none⟩ = false :=
  ⟨S.frozen k h 0, S.frozen k h 1, S.frozen k h 2, S.frozen k h 3, S.frozen k h 4, S.frozen k h 5, S.frozen k h 6, S.frozen k h 7, S.frozen k h 8, S.frozen k h 9⟩
def gA1 : AG := ⟨true, 0, 0, 1, 1, 1, 1, 9, 0, 0⟩
def gA2 : AG := ⟨true, 0, 0, 2, 1, 1, 1, 9, 0, 0⟩
def kM1 : Msg := ⟨0, 2, 0, 0, 1, 1, 1, 0, 9, 0, 0⟩
def kM2 : Msg := ⟨0, 3, 0, 0, 1, 1, 0, 0, 9, 0, 0⟩
theorem gTake1 : aTake aNew kM1 3 none = some (gA1, none) := by rfl
theorem gTake2 : aTake gA1 kM2 3 none = some (gA2, none) := by rfl
set_option maxRecDepth 10000 in
set_option maxHeartbeats 3200000 in
theorem alive13_any (w : World) : Calls Try.prog 4 #[] w fun e w' => e = .returned (.bool true) ∧ Below w.heap.size w w' := by
  have S0 : St w w [soT (.pointer none) none] := (St.start w).soNew
  have E1 : Hid (TakeV aNew 2 (aTake aNew kM1 3 none) = .tuple #[.agg #[.bool true, .int .i64 0, .int .i64 0, .int .i64 1, .int .i64 1, .int .i64 1, .int .i64 1, .int .i64 9, .int .i64 0, .int .i64 0], .agg #[.int .i64 2, .int .i64 6, .int .i64 0, .int .i64 0, .int .i64 1, .int .i64 1, .int .i64 1, .int .i64 0, .int .i64 0, .int .i64 1, .int .i64 0], .bool true]) := by rw [Hid, gTake1]; rfl
  have E2 : Hid (TakeV gA1 2 (aTake gA1 kM2 3 none) = .tuple #[.agg #[.bool true, .int .i64 0, .int .i64 0, .int .i64 2, .int .i64 1, .int .i64 1, .int .i64 1, .int .i64 9, .int .i64 0, .int .i64 0], .agg #[.int .i64 2, .int .i64 6, .int .i64 0, .int .i64 0, .int .i64 1, .int .i64 1, .int .i64 1, .int .i64 0, .int .i64 0, .int .i64 2, .int .i64 0], .bool true]) := by rw [Hid, gTake2]; rfl
  have E3 : Hid (TakeO none (aTake aNew kM1 3 none) = none) := by rw [Hid, gTake1]; rfl
  have E4 : Hid (TakeO none (aTake gA1 kM2 3 none) = none) := by rw [Hid, gTake2]; rfl
  have fld0 : ∀ wx : World, (Instr.field 23 (.agg #[.bool true, .int .i64 0, .int .i64 0, .int .i64 0, .int .i64 0, .int .i64 0, .int .i64 1, .int .i64 0, .int .i64 0, .int .i64 0]) 3).run Try.prog wx = .ok (.int .i64 0) wx := fun _ => by kernel_rfl
  have fld1 : ∀ wx : World, (Instr.field 23 (.agg #[.bool true, .int .i64 0, .int .i64 0, .int .i64 2, .int .i64 1, .int .i64 1, .int .i64 1, .int .i64 9, .int .i64 1, .int .i64 0]) 8).run Try.prog wx = .ok (.int .i64 1) wx := fun _ => by kernel_rfl
  have fld2 : ∀ wx : World, (Instr.field 23 (.agg #[.bool false, .int .i64 0, .int .i64 0, .int .i64 0, .int .i64 0, .int .i64 0, .int .i64 1, .int .i64 0, .int .i64 0, .int .i64 0]) 0).run Try.prog wx = .ok (.bool false) wx := fun _ => by kernel_rfl
  have fld3 : ∀ wx : World, (Instr.field 23 (.agg #[.bool true, .int .i64 0, .int .i64 0, .int .i64 0, .int .i64 0, .int .i64 0, .int .i64 1, .int .i64 0, .int .i64 0, .int .i64 0]) 0).run Try.prog wx = .ok (.bool true) wx := fun _ => by kernel_rfl
  have fld4 : ∀ wx : World, (Instr.field 25 (.agg #[.int .i64 1, .int .i64 6, .int .i64 0, .int .i64 0, .int .i64 1, .int .i64 1, .int .i64 1, .int .i64 0, .int .i64 0, .int .i64 1, .int .i64 0]) 4).run Try.prog wx = .ok (.int .i64 1) wx := fun _ => by kernel_rfl
  go_enter Try.func4, Try.ntmps4
  go_wp2_with fail
  refine (agNew _).mono ?_
  rintro e w1 ⟨rfl, hb1⟩
  have S1 := S0.grow hb1
  clear S0 hb1
  rw [show aNew.v = .agg #[.bool true, .int .i64 0, .int .i64 0, .int .i64 0, .int .i64 0, .int .i64 0, .int .i64 1, .int .i64 0, .int .i64 0, .int .i64 0] from rfl]
  go_wp2_with fail
  refine (agTake S1 aNew 2 kM1 3 (by decide)).mono ?_
  rintro e w2 ⟨rfl, S2⟩
  rw [E1.out]
  rw [E3.out] at S2
  clear S1
  have S3 : St w (w2.alloc (.cells #[.bool true, .int .i64 0, .int .i64 0, .int .i64 1, .int .i64 1, .int .i64 1, .int .i64 1, .int .i64 9, .int .i64 0, .int .i64 0] 23)) [soT (.pointer none) none, cellsT w2.heap.size 23 gA1.cs] := S2.newAt _ _ _ rfl
  have S4 : St w ((w2.alloc (.cells #[.bool true, .int .i64 0, .int .i64 0, .int .i64 1, .int .i64 1, .int .i64 1, .int .i64 1, .int .i64 9, .int .i64 0, .int .i64 0] 23)).alloc (.cells #[.int .i64 2, .int .i64 6, .int .i64 0, .int .i64 0, .int .i64 1, .int .i64 1, .int .i64 1, .int .i64 0, .int .i64 0, .int .i64 1, .int .i64 0] 25)) [soT (.pointer none) none, cellsT w2.heap.size 23 gA1.cs, cellsT (w2.heap.size + 1) 25 (aTell gA1 2).cs] := S3.newAt _ _ _ (alloc_size _ _)
  clear S2 S3
  go_wp2_with fail
  refine (agTake S4 gA1 2 kM2 3 (by decide)).mono ?_
  rintro e w5 ⟨rfl, S5⟩
  rw [E2.out]
  rw [E4.out] at S5
  clear S4
  have S6 : St w (w5.alloc (.cells #[.bool true, .int .i64 0, .int .i64 0, .int .i64 2, .int .i64 1, .int .i64 1, .int .i64 1, .int .i64 9, .int .i64 0, .int .i64 0] 23)) [soT (.pointer none) none, cellsT w2.heap.size 23 gA1.cs, cellsT (w2.heap.size + 1) 25 (aTell gA1 2).cs, cellsT w5.heap.size 23 gA2.cs] := S5.newAt _ _ _ rfl
  have S7 : St w ((w5.alloc (.cells #[.bool true, .int .i64 0, .int .i64 0, .int .i64 2, .int .i64 1, .int .i64 1, .int .i64 1, .int .i64 9, .int .i64 0, .int .i64 0] 23)).alloc (.cells #[.int .i64 2, .int .i64 6, .int .i64 0, .int .i64 0, .int .i64 1, .int .i64 1, .int .i64 1, .int .i64 0, .int .i64 0, .int .i64 2, .int .i64 0] 25)) [soT (.pointer none) none, cellsT w2.heap.size 23 gA1.cs, cellsT (w2.heap.size + 1) 25 (aTell gA1 2).cs, cellsT w5.heap.size 23 gA2.cs, cellsT (w5.heap.size + 1) 25 (aTell gA2 2).cs] := S6.newAt _ _ _ (alloc_size _ _)
  clear S5 S6
  obtain ⟨y0, y1, y2, y3, y4, y5, y6, y7, y8, y9⟩ := S7.agAt 1 rfl
  obtain ⟨z0, z1, z2, z3, z4, z5, z6, z7, z8, z9, z10⟩ := S7.msg 2 rfl
  obtain ⟨q0, q1, q2, q3, q4, q5, q6, q7, q8, q9⟩ := S7.agAt 3 rfl
  go_wp2_with fail
  refine (agAct gA2 9 _ (by decide)).mono ?_
  rintro e w8 ⟨rfl, hb8⟩
  have S8 := S7.grow hb8
  clear S7 hb8 q0 q1 q2 q3 q4 q5 q6 q7 q8 q9 y0 y1 y2 y3 y4 y5 y6 y7 y8 y9 z0 z1 z2 z3 z4 z5 z6 z7 z8 z9 z10
  rw [show (aAct gA2 9).v = .agg #[.bool true, .int .i64 0, .int .i64 0, .int .i64 0, .int .i64 0, .int .i64 0, .int .i64 1, .int .i64 0, .int .i64 0, .int .i64 0] from rfl]
  obtain ⟨y0, y1, y2, y3, y4, y5, y6, y7, y8, y9⟩ := S8.agAt 1 rfl
  obtain ⟨q0, q1, q2, q3, q4, q5, q6, q7, q8, q9⟩ := S8.agAt 3 rfl
  go_wp2_with fail
  refine (agAct gA2 8 _ (by decide)).mono ?_
  rintro e w9 ⟨rfl, hb9⟩
  have S9 := S8.grow hb9
  clear S8 hb9 q0 q1 q2 q3 q4 q5 q6 q7 q8 q9 y0 y1 y2 y3 y4 y5 y6 y7 y8 y9
  rw [show (aAct gA2 8).v = .agg #[.bool true, .int .i64 0, .int .i64 0, .int .i64 2, .int .i64 1, .int .i64 1, .int .i64 1, .int .i64 9, .int .i64 1, .int .i64 0] from rfl]
  obtain ⟨y0, y1, y2, y3, y4, y5, y6, y7, y8, y9⟩ := S9.agAt 1 rfl
  obtain ⟨q0, q1, q2, q3, q4, q5, q6, q7, q8, q9⟩ := S9.agAt 3 rfl
  go_wp2_with fail
  refine (agFenced gA2 9 _).mono ?_
  rintro e w10 ⟨rfl, hb10⟩
  have S10 := S9.grow hb10
  clear S9 hb10 q0 q1 q2 q3 q4 q5 q6 q7 q8 q9 y0 y1 y2 y3 y4 y5 y6 y7 y8 y9
  rw [show aFenced gA2 9 = true from rfl]
  obtain ⟨y0, y1, y2, y3, y4, y5, y6, y7, y8, y9⟩ := S10.agAt 1 rfl
  obtain ⟨q0, q1, q2, q3, q4, q5, q6, q7, q8, q9⟩ := S10.agAt 3 rfl
  go_wp2_with fail
  refine (agFail gA2 _).mono ?_
  rintro e w11 ⟨rfl, hb11⟩
  have S11 := S10.grow hb11
  clear S10 hb11 q0 q1 q2 q3 q4 q5 q6 q7 q8 q9 y0 y1 y2 y3 y4 y5 y6 y7 y8 y9
  rw [show (aFail gA2).v = .agg #[.bool false, .int .i64 0, .int .i64 0, .int .i64 0, .int .i64 0, .int .i64 0, .int .i64 1, .int .i64 0, .int .i64 0, .int .i64 0] from rfl]
  obtain ⟨y0, y1, y2, y3, y4, y5, y6, y7, y8, y9⟩ := S11.agAt 1 rfl
  obtain ⟨q0, q1, q2, q3, q4, q5, q6, q7, q8, q9⟩ := S11.agAt 3 rfl
  go_wp2_with fail
  refine (agFail gA2 _).mono ?_
  rintro e w12 ⟨rfl, hb12⟩
  have S12 := S11.grow hb12
  clear S11 hb12 q0 q1 q2 q3 q4 q5 q6 q7 q8 q9 y0 y1 y2 y3 y4 y5 y6 y7 y8 y9
  rw [show (aFail gA2).v = .agg #[.bool false, .int .i64 0, .int .i64 0, .int .i64 0, .int .i64 0, .int .i64 0, .int .i64 1, .int .i64 0, .int .i64 0, .int .i64 0] from rfl]
  obtain ⟨y0, y1, y2, y3, y4, y5, y6, y7, y8, y9⟩ := S12.agAt 1 rfl
  obtain ⟨q0, q1, q2, q3, q4, q5, q6, q7, q8, q9⟩ := S12.agAt 3 rfl
  go_wp2_with fail
  refine (agBack (aFail gA2) _).mono ?_
  rintro e w13 ⟨rfl, hb13⟩
  have S13 := S12.grow hb13
  clear S12 hb13 q0 q1 q2 q3 q4 q5 q6 q7 q8 q9 y0 y1 y2 y3 y4 y5 y6 y7 y8 y9
  rw [show (aBack (aFail gA2)).v = .agg #[.bool true, .int .i64 0, .int .i64 0, .int .i64 0, .int .i64 0, .int .i64 0, .int .i64 1, .int .i64 0, .int .i64 0, .int .i64 0] from rfl]
  obtain ⟨y0, y1, y2, y3, y4, y5, y6, y7, y8, y9⟩ := S13.agAt 1 rfl
  obtain ⟨q0, q1, q2, q3, q4, q5, q6, q7, q8, q9⟩ := S13.agAt 3 rfl
  go_wp2_with fail
  refine (agTell gA1 1 _).mono ?_
  rintro e w14 ⟨rfl, hb14⟩
  have S14 := S13.grow hb14
  clear S13 hb14 q0 q1 q2 q3 q4 q5 q6 q7 q8 q9 y0 y1 y2 y3 y4 y5 y6 y7 y8 y9
  rw [show (aTell gA1 1).v = .agg #[.int .i64 1, .int .i64 6, .int .i64 0, .int .i64 0, .int .i64 1, .int .i64 1, .int .i64 1, .int .i64 0, .int .i64 0, .int .i64 1, .int .i64 0] from rfl]
  obtain ⟨y0, y1, y2, y3, y4, y5, y6, y7, y8, y9⟩ := S14.agAt 1 rfl
  obtain ⟨q0, q1, q2, q3, q4, q5, q6, q7, q8, q9⟩ := S14.agAt 3 rfl
  go_wp2
  go_ret
  exact ⟨rfl, S14.fin⟩
end Go.Proofs.Ytchehnkmmmnonaa

namespace Go.Proofs.Ytchehnkmmmnonaa
set_option linter.unusedVariables false
set_option linter.unusedSimpArgs false
open Go.RowKit
theorem aTake_some {a b : AG} {m : Msg} {now : Int} {o o' : Option SS} (h : aTake a m now o = some (b, o')) : takesB a m = true ∧ oOrder { a with term := m.term, gen := m.gen } m now o = (b, o') := by
  unfold aTake at h
  by_cases ht : takesB a m = true
  · rw [if_pos ht] at h; exact ⟨ht, Option.some.inj h⟩
  · rw [if_neg ht] at h; cases h
theorem takesB_up {a : AG} {m : Msg} (h : takesB a m = true) : a.up = true := by
  unfold takesB at h
  rw [Bool.and_eq_true] at h
  exact h.1
theorem takesB_kind {a : AG} {m : Msg} (h : takesB a m = true) : 1 ≤ m.kind ∧ m.kind ≤ 5 := by
  simp only [takesB, Bool.and_eq_true, decide_eq_true_eq] at h
  exact ⟨h.2.1, h.2.2.1⟩
theorem oOrder_none (a : AG) (m : Msg) (now : Int) : (oOrder a m now none).2 = none := by
  unfold oOrder
  split <;> (try rfl); split <;> (try rfl); split <;> (try rfl); split <;> (try rfl)
  unfold oSave oStage
  split <;> (try split) <;> rfl
/-- What an order leaves as it is. -/
theorem oOrder_keeps (a : AG) (m : Msg) (now : Int) (o : Option SS) : (oOrder a m now o).1.term = a.term ∧ (oOrder a m now o).1.gen = a.gen ∧ (oOrder a m now o).1.up = a.up ∧ (oOrder a m now o).1.version = a.version := by
  unfold oOrder oRest oTake oWork oSave oTurn aRenew aLoose
  repeat' split
  all_goals exact ⟨rfl, rfl, rfl, rfl⟩
end Go.Proofs.Ytchehnkmmmnonaa

namespace Go.Proofs.Ytchehnkmmmnonaa
set_option linter.unusedVariables false
set_option linter.unusedSimpArgs false
open Go.RowKit
theorem aFenced_act (a : AG) (now : Int) : aFenced (aAct a now) now = false := by
  unfold aFenced aAct
  by_cases h1 : a.up = false ∨ a.mode = 0
  · rw [if_pos h1]
    rcases h1 with h | h
    · rw [h]; rfl
    · rw [h]; simp
  · rw [if_neg h1]
    by_cases h2 : a.mode = 4
    · rw [if_pos h2]; simp [aLoose]
    · rw [if_neg h2]
      by_cases h3 : a.lease ≤ now
      · rw [if_pos h3]; simp [aLoose]
      · rw [if_neg h3]
        by_cases h4 : a.mode = 2
        · rw [if_pos h4]; simp [h3]
        · rw [if_neg h4]; simp [h3]
theorem oOrder_lease (a : AG) (m : Msg) (now : Int) (h1 : m.kind ≠ 1) (h0 : a.mode ≠ 0) (h3 : ¬ (m.kind = 3 ∧ a.mode = 1)) : a.lease ≤ (oOrder a m now none).1.lease ∧ (oOrder a m now none).1.job = a.job ∧ (oOrder a m now none).1.inc = a.inc := by
  unfold oOrder
  rw [if_neg h1]
  by_cases k2 : m.kind = 2
  · rw [if_pos k2]
    unfold oTake
    split
    · exact ⟨Int.le_max_left _ _, rfl, rfl⟩
    · rw [if_neg (fun h => h0 h.1)]; exact ⟨Int.le_refl _, rfl, rfl⟩
  · rw [if_neg k2]
    by_cases k3 : m.kind = 3
    · rw [if_pos k3]
      unfold oWork
      split
      · exact ⟨Int.le_max_left _ _, rfl, rfl⟩
      · rw [if_neg (fun h => h3 ⟨k3, by simp only [ownsJ, Bool.and_eq_true, beq_iff_eq] at h; exact h.1⟩)]; exact ⟨Int.le_refl _, rfl, rfl⟩
    · rw [if_neg k3]
      by_cases k4 : m.kind = 4
      · rw [if_pos k4]
        unfold oSave
        split
        · split
          · dsimp only; split <;> exact ⟨Int.le_refl _, rfl, rfl⟩
          · exact ⟨Int.le_refl _, rfl, rfl⟩
        · exact ⟨Int.le_refl _, rfl, rfl⟩
      · rw [if_neg k4]
        unfold oTurn
        rw [if_neg (fun h => h0 h.1)]; exact ⟨Int.le_refl _, rfl, rfl⟩
end Go.Proofs.Ytchehnkmmmnonaa

namespace Go.Proofs.Ytchehnkmmmnonaa
set_option linter.unusedVariables false
set_option linter.unusedSimpArgs false
open Go.RowKit
theorem AG.conv {H : Type} {enc : TypeId × Value → H} {w : World} {base : Nat} {spare : Nat → Bool} {held : Bool} (fuel : Nat) (cs : List Value) (x : DataW H × List MemPlace) (hl : cs.length = 10)
    (h : DataW.trod enc Try.prog w base spare held fuel 23 cs = some x) : ∃ a : AG, cs = a.cs := by
  have hC : Try.prog.cellsOf 23 = 10 := by kernel_rfl
  obtain ⟨vs, rfl, hr⟩ := open_leaves 2 (ks := [.bool, .int, .int, .int, .int, .int, .int, .int, .int, .int]) (by kernel_rfl) (hl.trans hC.symm) hC h
  obtain ⟨a1, us, e1, hr1⟩ := hr.bool
  subst e1
  clear hr
  have hr := hr1
  obtain ⟨a2, _, rfl, _, hr⟩ := hr.int
  obtain ⟨a3, _, rfl, _, hr⟩ := hr.int
  obtain ⟨a4, _, rfl, _, hr⟩ := hr.int
  obtain ⟨a5, _, rfl, _, hr⟩ := hr.int
  obtain ⟨a6, _, rfl, _, hr⟩ := hr.int
  obtain ⟨a7, _, rfl, _, hr⟩ := hr.int
  obtain ⟨a8, _, rfl, _, hr⟩ := hr.int
  obtain ⟨a9, _, rfl, _, hr⟩ := hr.int
  obtain ⟨a10, _, rfl, _, hr⟩ := hr.int
  obtain rfl := hr.nil
  exact ⟨⟨a1, a2, a3, a4, a5, a6, a7, a8, a9, a10⟩, rfl⟩
end Go.Proofs.Ytchehnkmmmnonaa
