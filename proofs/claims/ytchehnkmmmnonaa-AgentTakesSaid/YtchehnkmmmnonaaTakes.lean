/- The agent: the map of how orders are taken. The agent: Take's deferred call. The agent: Take. -/
import Derived.Test.YtchehnkmmmnonaaOrders
import Derived.MapKept
import Derived.WideMake
import Derived.Defers
namespace Go.Proofs.Ytchehnkmmmnonaa
set_option linter.unusedVariables false
set_option linter.unusedSimpArgs false
open Go.RowKit
theorem mapOT : Try.prog.underlying 66 = some (.map 3 64) := by kernel_rfl
theorem push_set {α : Type} (l : Array α) (x y : α) : (l.push x).setIfInBounds l.size y = l.push y := by
  apply Array.ext'
  simp [Array.toList_setIfInBounds]
theorem insFresh {T E : TypeId} (hm : Try.prog.underlying T = some (.map 3 E)) (w : World) (es : List MapEntry) (clock : Nat) (k : Int) (v : Value) (hk : Instr.findNow (.int .i64) (.int .i64 k) es 0 = some none) :
    (Instr.mapUpdate T (.map (some w.heap.size)) (.int .i64 k) v).run Try.prog (w.alloc (.map es.toArray clock)) = .ok () (w.alloc (.map (es ++ [({ key := .int .i64 k, val := v, born := clock } : MapEntry)]).toArray (clock + 1))) := by
  have hd : Try.prog.underlying 3 = some (.int .i64) := by kernel_rfl
  have hb : (w.alloc (.map es.toArray clock)).heap[w.heap.size]? = some (.map es.toArray clock) := by show (Array.push _ _)[_]? = _; simp
  have hc : (Instr.checkKey false 10000 3 (.int .i64 k)).run Try.prog (w.alloc (.map es.toArray clock)) = .ok () _ := MapKept.run_checkKey (k := .int .i64 k) hd (by simp [MapKept.IsKey]) false 9999
  have hset : ∀ o, ({ w.alloc (.map es.toArray clock) with heap := (w.alloc (.map es.toArray clock)).heap.setIfInBounds w.heap.size o } : World) = w.alloc o := by
    intro o
    show ({ w with heap := (w.heap.push _).setIfInBounds w.heap.size o } : World) = { w with heap := w.heap.push o }
    rw [push_set]
  simp [Instr.mapUpdate, run_underlying hm, MapKept.run_getObj_map hb, hc, MapKept.run_findKey hd hk, MapKept.run_setObj_map _ hb, Result.andThen]
  exact hset _
def ordF (n : Nat) : Value := .func (.func n) #[] #[]
def ordEs : List MapEntry := [⟨.int .i64 1, ordF 31, 0⟩, ⟨.int .i64 2, ordF 32, 1⟩, ⟨.int .i64 3, ordF 35, 2⟩, ⟨.int .i64 4, ordF 36, 3⟩, ⟨.int .i64 5, ordF 40, 4⟩]
set_option maxRecDepth 10000 in
theorem agOrders (w : World) : Calls Try.prog 22 #[] w fun e w' => e = .returned (.map (some w.heap.size)) ∧ w' = w.alloc (.map ordEs.toArray 5) := by
  have h0 := run_makeMap_plain (P := Try.prog) w 66
  have h1 := insFresh mapOT w (ordEs.take 0) 0 1 (ordF 31) rfl
  have h2 := insFresh mapOT w (ordEs.take 1) 1 2 (ordF 32) rfl
  have h3 := insFresh mapOT w (ordEs.take 2) 2 3 (ordF 35) rfl
  have h4 := insFresh mapOT w (ordEs.take 3) 3 4 (ordF 36) rfl
  have h5 := insFresh mapOT w (ordEs.take 4) 4 5 (ordF 40) rfl
  simp only [ordEs, ordF, List.take_zero, List.take_succ_cons, List.take_nil, List.nil_append, List.cons_append, Nat.zero_add, Nat.reduceAdd] at h1 h2 h3 h4 h5
  go_enter Try.func22, Try.ntmps22
  go_wp2
  go_ret
  exact ⟨rfl, rfl⟩
theorem lookOT {w : World} {g : Nat} (hb : w.heap[g]? = some (.map ordEs.toArray 5)) (k : Int) (f : Value) (i : Nat) (hk : Instr.findNow (.int .i64) (.int .i64 k) ordEs 0 = some (some (i, f))) :
    (Instr.lookup 66 (.map (some g)) (.int .i64 k) true).run Try.prog w = .ok (.tuple #[f, .bool true]) w := by
  have hd : Try.prog.underlying 3 = some (.int .i64) := by kernel_rfl
  have hc : ∀ b, (Instr.checkKey b 10000 3 (.int .i64 k)).run Try.prog w = .ok () w := fun b => MapKept.run_checkKey (k := .int .i64 k) hd (by simp [MapKept.IsKey]) b 9999
  simp [Instr.lookup, run_underlying mapOT, MapKept.run_getObj_map hb, hc, MapKept.run_findKey hd hk, Result.andThen]
theorem lookOT_no {w : World} {g : Nat} (hb : w.heap[g]? = some (.map ordEs.toArray 5)) (k : Int) (hk : Instr.findNow (.int .i64) (.int .i64 k) ordEs 0 = some none) :
    ∃ z, (Instr.lookup 66 (.map (some g)) (.int .i64 k) true).run Try.prog w = .ok (.tuple #[z, .bool false]) w := by
  have hd : Try.prog.underlying 3 = some (.int .i64) := by kernel_rfl
  have hc : ∀ b, (Instr.checkKey b 10000 3 (.int .i64 k)).run Try.prog w = .ok () w := fun b => MapKept.run_checkKey (k := .int .i64 k) hd (by simp [MapKept.IsKey]) b 9999
  have hz : (zeroValue 64).run Try.prog w = .ok .nilFunc w := by kernel_rfl
  exact ⟨.nilFunc, by simp [Instr.lookup, run_underlying mapOT, MapKept.run_getObj_map hb, hc, MapKept.run_findKey hd hk, Result.andThen, hz]⟩
end Go.Proofs.Ytchehnkmmmnonaa

namespace Go.Proofs.Ytchehnkmmmnonaa
set_option linter.unusedVariables false
set_option linter.unusedSimpArgs false
open Go.RowKit
section
variable {w0 w : World} {tl : List Thing} {ga gn go gt gk : Nat} {a : AG} {node : Int} {X Y : Thing}
theorem doneCells {w' : World} {l : List Thing} (S : St w0 w' (cellsT ga 23 a.cs :: l)) (k : Nat) (hk : l[k]? = some (cellsT gn 3 [.int .i64 node])) : (w'.cell? ⟨ga, 0, none⟩ = some (.bool a.up) ∧ w'.cell? ⟨ga, 1, none⟩ = some (.int .i64 a.term) ∧ w'.cell? ⟨ga, 2, none⟩ = some (.int .i64 a.gen) ∧ w'.cell? ⟨ga, 3, none⟩ = some (.int .i64 a.mode) ∧ w'.cell? ⟨ga, 4, none⟩ = some (.int .i64 a.job) ∧ w'.cell? ⟨ga, 5, none⟩ = some (.int .i64 a.inc) ∧ w'.cell? ⟨ga, 6, none⟩ = some (.int .i64 a.version) ∧ w'.cell? ⟨ga, 7, none⟩ = some (.int .i64 a.lease) ∧ w'.cell? ⟨ga, 8, none⟩ = some (.int .i64 a.worked) ∧ w'.cell? ⟨ga, 9, none⟩ = some (.int .i64 a.to_) ∧ w'.cell? ⟨gn, 0, none⟩ = some (.int .i64 node)) :=
  ⟨S.cell 0 rfl 0 rfl, S.cell 0 rfl 1 rfl, S.cell 0 rfl 2 rfl, S.cell 0 rfl 3 rfl, S.cell 0 rfl 4 rfl, S.cell 0 rfl 5 rfl, S.cell 0 rfl 6 rfl, S.cell 0 rfl 7 rfl, S.cell 0 rfl 8 rfl, S.cell 0 rfl 9 rfl, S.tail.cell k hk 0 rfl⟩
set_option maxRecDepth 10000 in
set_option maxHeartbeats 3200000 in
theorem agDone (S : St w0 w (cellsT ga 23 a.cs :: X :: cellsT gk 4 [.bool false] :: cellsT gt 25 Msg.zero.cs :: cellsT go 23 AG.zero.cs :: Y :: cellsT gn 3 [.int .i64 node] :: tl)) :
    CallsD Try.prog 23 #[.pointer (some ⟨ga, 0, none⟩), .pointer (some ⟨gn, 0, none⟩), .pointer (some ⟨go, 0, none⟩), .pointer (some ⟨gt, 0, none⟩), .pointer (some ⟨gk, 0, none⟩)] .returning w fun e u w' => u = .returning ∧ (e = .returned (.tuple #[]) ∧ St w0 w' (cellsT ga 23 a.cs :: X :: cellsT gk 4 [.bool true] :: cellsT gt 25 (aTell a node).cs :: cellsT go 23 a.cs :: Y :: cellsT gn 3 [.int .i64 node] :: tl)) := by
  go_enter_d Try.func23, Try.ntmps23
  refine wp_region_held_drew (S := (fun w' => (w'.cell? ⟨ga, 0, none⟩ = some (.bool a.up) ∧ w'.cell? ⟨ga, 1, none⟩ = some (.int .i64 a.term) ∧ w'.cell? ⟨ga, 2, none⟩ = some (.int .i64 a.gen) ∧ w'.cell? ⟨ga, 3, none⟩ = some (.int .i64 a.mode) ∧ w'.cell? ⟨ga, 4, none⟩ = some (.int .i64 a.job) ∧ w'.cell? ⟨ga, 5, none⟩ = some (.int .i64 a.inc) ∧ w'.cell? ⟨ga, 6, none⟩ = some (.int .i64 a.version) ∧ w'.cell? ⟨ga, 7, none⟩ = some (.int .i64 a.lease) ∧ w'.cell? ⟨ga, 8, none⟩ = some (.int .i64 a.worked) ∧ w'.cell? ⟨ga, 9, none⟩ = some (.int .i64 a.to_) ∧ w'.cell? ⟨gn, 0, none⟩ = some (.int .i64 node)))) (by kernel_rfl) (by exact doneCells S.drew 5 rfl) (fun hHeld => ?_)
  change wpAnyH _ _ _ _ _ 7 (Array.replicate 7 false) _ _
  refine wpAnyH_take (i := 0) (v := ?v1) (ops_at rfl) (by kernel_rfl) (by kernel_rfl) (by kernel_rfl) (fun _ _ _ h => h) (Or.inl ⟨by rfl, ?hy1⟩) (by assumption) ?rest1
  case hy1 => intro w' hSw; (try dsimp only at hSw); go_simp; try with_reducible rfl
  try simp only [Act.put, List.setIfInBounds_toArray, List.set_cons_zero, List.set_cons_succ]
  refine wpAnyH_take (i := 1) (v := ?v2) (ops_at rfl) (by kernel_rfl) (by kernel_rfl) (by kernel_rfl) (fun _ _ _ h => h) (Or.inl ⟨by rfl, ?hy2⟩) (by assumption) ?rest2
  case hy2 => intro w' hSw; (try dsimp only at hSw); go_simp; try with_reducible rfl
  try simp only [Act.put, List.setIfInBounds_toArray, List.set_cons_zero, List.set_cons_succ]
  refine wpAnyH_take (i := 2) (v := ?v3) (ops_at rfl) (by kernel_rfl) (by kernel_rfl) (by kernel_rfl) (fun _ _ _ h => h) (Or.inl ⟨by rfl, ?hy3⟩) (by assumption) ?rest3
  case hy3 => intro w' hSw; (try dsimp only at hSw); go_simp; try with_reducible rfl
  try simp only [Act.put, List.setIfInBounds_toArray, List.set_cons_zero, List.set_cons_succ]
  refine wpAnyH_ready (rs := [3]) (by kernel_rfl) (by simp) ?_
  refine AllReadyH.cons (ops_at rfl) (fun K hK => ?_) AllReadyH.nil
  go_simp
  refine (agTell a node _).mono ?_
  rintro e w1 ⟨rfl, hb1⟩
  rw [show (aTell a node).v = .agg #[.int .i64 node, .int .i64 6, .int .i64 a.term, .int .i64 a.gen, .int .i64 a.job, .int .i64 a.inc, .int .i64 a.version, .int .i64 0, .int .i64 0, .int .i64 a.mode, .int .i64 a.worked] from rfl]
  have S1 := S.drew.grow hb1
  clear hb1 S
  have oc0 := S1.cell 4 rfl 0 rfl
  have of0 := S1.frozen 4 rfl 0
  have oc1 := S1.cell 4 rfl 1 rfl
  have of1 := S1.frozen 4 rfl 1
  have oc2 := S1.cell 4 rfl 2 rfl
  have of2 := S1.frozen 4 rfl 2
  have oc3 := S1.cell 4 rfl 3 rfl
  have of3 := S1.frozen 4 rfl 3
  have oc4 := S1.cell 4 rfl 4 rfl
  have of4 := S1.frozen 4 rfl 4
  have oc5 := S1.cell 4 rfl 5 rfl
  have of5 := S1.frozen 4 rfl 5
  have oc6 := S1.cell 4 rfl 6 rfl
  have of6 := S1.frozen 4 rfl 6
  have oc7 := S1.cell 4 rfl 7 rfl
  have of7 := S1.frozen 4 rfl 7
  have oc8 := S1.cell 4 rfl 8 rfl
  have of8 := S1.frozen 4 rfl 8
  have oc9 := S1.cell 4 rfl 9 rfl
  have of9 := S1.frozen 4 rfl 9
  refine hK.out _ _ (by exact doneCells S1 5 rfl) (fun hHeld => ?_)
  clear hK K
  try simp only [Act.put, List.setIfInBounds_toArray, List.set_cons_zero, List.set_cons_succ]
  have S2 : St w0 _ (cellsT ga 23 a.cs :: X :: cellsT gk 4 [.bool false] :: cellsT gt 25 Msg.zero.cs :: cellsT go 23 a.cs :: Y :: cellsT gn 3 [.int .i64 node] :: tl) := ((((((((((S1.setCell 4 rfl 0 (.bool a.up)).setCell 4 rfl 1 (.int .i64 a.term)).setCell 4 rfl 2 (.int .i64 a.gen)).setCell 4 rfl 3 (.int .i64 a.mode)).setCell 4 rfl 4 (.int .i64 a.job)).setCell 4 rfl 5 (.int .i64 a.inc)).setCell 4 rfl 6 (.int .i64 a.version)).setCell 4 rfl 7 (.int .i64 a.lease)).setCell 4 rfl 8 (.int .i64 a.worked)).setCell 4 rfl 9 (.int .i64 a.to_))
  refine wpAnyH_ready (rs := [4]) (by kernel_rfl) (by simp) ?_
  refine AllReadyH.cons (ops_at rfl) (fun K hK => ?_) AllReadyH.nil
  go_simp
  refine hK.out _ _ (by exact doneCells S2 5 rfl) (fun hHeld => ?_)
  clear hK K
  try simp only [Act.put, List.setIfInBounds_toArray, List.set_cons_zero, List.set_cons_succ]
  clear oc0 of0 oc1 of1 oc2 of2 oc3 of3 oc4 of4 oc5 of5 oc6 of6 oc7 of7 oc8 of8 oc9 of9 hHeld S1
  generalize World.setCell _ _ _ = w2 at *
  have tc0 := S2.cell 3 rfl 0 rfl
  have tf0 := S2.frozen 3 rfl 0
  have tc1 := S2.cell 3 rfl 1 rfl
  have tf1 := S2.frozen 3 rfl 1
  have tc2 := S2.cell 3 rfl 2 rfl
  have tf2 := S2.frozen 3 rfl 2
  have tc3 := S2.cell 3 rfl 3 rfl
  have tf3 := S2.frozen 3 rfl 3
  have tc4 := S2.cell 3 rfl 4 rfl
  have tf4 := S2.frozen 3 rfl 4
  have tc5 := S2.cell 3 rfl 5 rfl
  have tf5 := S2.frozen 3 rfl 5
  have tc6 := S2.cell 3 rfl 6 rfl
  have tf6 := S2.frozen 3 rfl 6
  have tc7 := S2.cell 3 rfl 7 rfl
  have tf7 := S2.frozen 3 rfl 7
  have tc8 := S2.cell 3 rfl 8 rfl
  have tf8 := S2.frozen 3 rfl 8
  have tc9 := S2.cell 3 rfl 9 rfl
  have tf9 := S2.frozen 3 rfl 9
  have tc10 := S2.cell 3 rfl 10 rfl
  have tf10 := S2.frozen 3 rfl 10
  have S3 : St w0 _ (cellsT ga 23 a.cs :: X :: cellsT gk 4 [.bool false] :: cellsT gt 25 (aTell a node).cs :: cellsT go 23 a.cs :: Y :: cellsT gn 3 [.int .i64 node] :: tl) := (((((((((((S2.setCell 3 rfl 0 (.int .i64 node)).setCell 3 rfl 1 (.int .i64 6)).setCell 3 rfl 2 (.int .i64 a.term)).setCell 3 rfl 3 (.int .i64 a.gen)).setCell 3 rfl 4 (.int .i64 a.job)).setCell 3 rfl 5 (.int .i64 a.inc)).setCell 3 rfl 6 (.int .i64 a.version)).setCell 3 rfl 7 (.int .i64 0)).setCell 3 rfl 8 (.int .i64 0)).setCell 3 rfl 9 (.int .i64 a.mode)).setCell 3 rfl 10 (.int .i64 a.worked))
  have hHeld := doneCells S2 5 rfl
  refine wpAnyH_ready (rs := [5]) (by kernel_rfl) (by simp) ?_
  refine AllReadyH.cons (ops_at rfl) (fun K hK => ?_) AllReadyH.nil
  go_simp
  refine hK.out _ _ (by exact doneCells S3 5 rfl) (fun hHeld => ?_)
  clear hK K
  try simp only [Act.put, List.setIfInBounds_toArray, List.set_cons_zero, List.set_cons_succ]
  clear tc0 tf0 tc1 tf1 tc2 tf2 tc3 tf3 tc4 tf4 tc5 tf5 tc6 tf6 tc7 tf7 tc8 tf8 tc9 tf9 tc10 tf10 hHeld S2
  generalize World.setCell _ _ _ = w3 at *
  have kc := S3.cell 2 rfl 0 rfl
  have kf := S3.frozen 2 rfl 0
  have S4 : St w0 _ (cellsT ga 23 a.cs :: X :: cellsT gk 4 [.bool true] :: cellsT gt 25 (aTell a node).cs :: cellsT go 23 a.cs :: Y :: cellsT gn 3 [.int .i64 node] :: tl) := S3.setCell 2 rfl 0 (.bool true)
  have hHeld := doneCells S3 5 rfl
  refine wpAnyH_ready (rs := [6]) (by kernel_rfl) (by simp) ?_
  refine AllReadyH.cons (ops_at rfl) (fun K hK => ?_) AllReadyH.nil
  go_simp
  refine hK.out _ _ (by exact doneCells S4 5 rfl) (fun hHeld => ?_)
  clear hK K
  try simp only [Act.put, List.setIfInBounds_toArray, List.set_cons_zero, List.set_cons_succ]
  refine wpAnyH_done (by kernel_rfl) ?_ _
  go_wp2
  go_end0
  exact ⟨rfl, S4⟩
end
end Go.Proofs.Ytchehnkmmmnonaa

namespace Go.Proofs.Ytchehnkmmmnonaa
set_option linter.unusedVariables false
set_option linter.unusedSimpArgs false
open Go.RowKit
def oOrder (b : AG) (m : Msg) (now : Int) (o : Option SS) : AG × Option SS :=
  if m.kind = 1 then (oRest b, o) else if m.kind = 2 then (oTake b m now, o) else if m.kind = 3 then (oWork b m, o) else if m.kind = 4 then oSave b m now o else (oTurn b m, o)
def takesB (a : AG) (m : Msg) : Bool := a.up && (decide (1 ≤ m.kind) && (decide (m.kind ≤ 5) && (!decide (m.term < a.term) && !(decide (m.term = a.term) && decide (m.gen < a.gen)))))
def aTake (a : AG) (m : Msg) (now : Int) (o : Option SS) : Option (AG × Option SS) :=
  if takesB a m = true then some (oOrder { a with term := m.term, gen := m.gen } m now o) else none
section
variable {w0 w : World} {tl : List Thing} {a : AG} {o : Option SS} {sv : Value}
theorem ordCall (m : Msg) (now : Int) (h1 : 1 ≤ m.kind) (h5 : m.kind ≤ 5) : ∃ (n i : Nat), (Instr.findNow (.int .i64) (.int .i64 m.kind) ordEs 0 = some (some (i, ordF n))) ∧
    (n = 31 ∨ n = 32 ∨ n = 35 ∨ n = 36 ∨ n = 40) ∧
    ∀ (w0 w : World) (tl : List Thing) (g : Nat) (a : AG) (o : Option SS) (sv : Value), oWrites o ≤ 1000000 → St w0 w (cellsT g 23 a.cs :: soT sv o :: tl) →
      Calls Try.prog n #[.agg #[.pointer (some ⟨g, 0, none⟩), .int .i64 m.node, .int .i64 m.kind, .int .i64 m.term, .int .i64 m.gen, .int .i64 m.job, .int .i64 m.inc, .int .i64 m.version, .int .i64 m.epoch, .int .i64 m.until_, .int .i64 m.mode, .int .i64 m.work, .int .i64 now, sv]] w fun e w' => e = .returned (.tuple #[]) ∧ St w0 w' (cellsT g 23 (oOrder a m now o).1.cs :: soT sv (oOrder a m now o).2 :: tl) := by
  have hc : m.kind = 1 ∨ m.kind = 2 ∨ m.kind = 3 ∨ m.kind = 4 ∨ m.kind = 5 := by omega
  rcases hc with h | h | h | h | h
  · refine ⟨31, 0, by rw [h]; rfl, .inl rfl, fun w0 w tl g a o sv hw S => ?_⟩
    rw [show oOrder a m now o = (oRest a, o) from by unfold oOrder; rw [if_pos h]]
    exact ordRest S m now _
  · refine ⟨32, 1, by rw [h]; rfl, .inr (.inl rfl), fun w0 w tl g a o sv hw S => ?_⟩
    rw [show oOrder a m now o = (oTake a m now, o) from by unfold oOrder; rw [if_neg (by rw [h]; decide), if_pos h]]
    exact ordTake S m now _
  · refine ⟨35, 2, by rw [h]; rfl, .inr (.inr (.inl rfl)), fun w0 w tl g a o sv hw S => ?_⟩
    rw [show oOrder a m now o = (oWork a m, o) from by unfold oOrder; rw [if_neg (by rw [h]; decide), if_neg (by rw [h]; decide), if_pos h]]
    exact ordWork S m now _
  · refine ⟨36, 3, by rw [h]; rfl, .inr (.inr (.inr (.inl rfl))), fun w0 w tl g a o sv hw S => ?_⟩
    rw [show oOrder a m now o = oSave a m now o from by unfold oOrder; rw [if_neg (by rw [h]; decide), if_neg (by rw [h]; decide), if_neg (by rw [h]; decide), if_pos h]]
    exact ordSave S m now hw
  · refine ⟨40, 4, by rw [h]; rfl, .inr (.inr (.inr (.inr rfl))), fun w0 w tl g a o sv hw S => ?_⟩
    rw [show oOrder a m now o = (oTurn a m, o) from by unfold oOrder; rw [if_neg (by rw [h]; decide), if_neg (by rw [h]; decide), if_neg (by rw [h]; decide), if_neg (by rw [h]; decide)]]
    exact ordTurn S m now _
theorem heap_alloc_n (w : World) (o : Obj) : (w.alloc o).heap.size = w.heap.size + 1 := by show (Array.push _ _).size = _; simp
/-- What Take lays ahead of all else. -/
theorem takeSt (S : St w0 w (soT sv o :: tl)) (a : AG) (node : Int) (m : Msg) :
    St w0 ((((((w.alloc (.cells #[.bool a.up, .int .i64 a.term, .int .i64 a.gen, .int .i64 a.mode, .int .i64 a.job, .int .i64 a.inc, .int .i64 a.version, .int .i64 a.lease, .int .i64 a.worked, .int .i64 a.to_] 23)).alloc (.cells #[.int .i64 node] 3)).alloc (.cells #[.int .i64 m.node, .int .i64 m.kind, .int .i64 m.term, .int .i64 m.gen, .int .i64 m.job, .int .i64 m.inc, .int .i64 m.version, .int .i64 m.epoch, .int .i64 m.until_, .int .i64 m.mode, .int .i64 m.work] 25)).alloc (.cells #[.bool false, .int .i64 0, .int .i64 0, .int .i64 0, .int .i64 0, .int .i64 0, .int .i64 0, .int .i64 0, .int .i64 0, .int .i64 0] 23)).alloc (.cells #[.int .i64 0, .int .i64 0, .int .i64 0, .int .i64 0, .int .i64 0, .int .i64 0, .int .i64 0, .int .i64 0, .int .i64 0, .int .i64 0, .int .i64 0] 25)).alloc (.cells #[.bool false] 4)) (cellsT w.heap.size 23 a.cs :: soT sv o :: cellsT (w.heap.size + 1 + 1 + 1 + 1 + 1) 4 [.bool false] :: cellsT (w.heap.size + 1 + 1 + 1 + 1) 25 Msg.zero.cs :: cellsT (w.heap.size + 1 + 1 + 1) 23 AG.zero.cs :: cellsT (w.heap.size + 1 + 1) 25 m.cs :: cellsT (w.heap.size + 1) 3 [.int .i64 node] :: tl) := by
  have S1 := (newAtG S 23 #[.bool a.up, .int .i64 a.term, .int .i64 a.gen, .int .i64 a.mode, .int .i64 a.job, .int .i64 a.inc, .int .i64 a.version, .int .i64 a.lease, .int .i64 a.worked, .int .i64 a.to_] w.heap.size rfl).rot
  have S2 := (newAtG S1 3 #[.int .i64 node] (w.heap.size + 1) (by simp only [heap_alloc_n])).rot
  have S3 := (newAtG S2 25 #[.int .i64 m.node, .int .i64 m.kind, .int .i64 m.term, .int .i64 m.gen, .int .i64 m.job, .int .i64 m.inc, .int .i64 m.version, .int .i64 m.epoch, .int .i64 m.until_, .int .i64 m.mode, .int .i64 m.work] (w.heap.size + 1 + 1) (by simp only [heap_alloc_n])).rot
  have S4 := (newAtG S3 23 #[.bool false, .int .i64 0, .int .i64 0, .int .i64 0, .int .i64 0, .int .i64 0, .int .i64 0, .int .i64 0, .int .i64 0, .int .i64 0] (w.heap.size + 1 + 1 + 1) (by simp only [heap_alloc_n])).rot
  have S5 := (newAtG S4 25 #[.int .i64 0, .int .i64 0, .int .i64 0, .int .i64 0, .int .i64 0, .int .i64 0, .int .i64 0, .int .i64 0, .int .i64 0, .int .i64 0, .int .i64 0] (w.heap.size + 1 + 1 + 1 + 1) (by simp only [heap_alloc_n])).rot
  have S6 := (newAtG S5 4 #[.bool false] (w.heap.size + 1 + 1 + 1 + 1 + 1) (by simp only [heap_alloc_n])).rot
  exact (S6.front 6 rfl).front 6 rfl
theorem res_take {fn : Func} {p q r : Tmp} (h : fn.results = #[.cell p 23, .cell q 25, .cell r 4]) (tmps : Array Value) (w : World) (g1 g2 g3 : Nat) (c1 c2 : Array Value) (b : Bool)
    (p1 : tmps.getD p undef = .pointer (some ⟨g1, 0, none⟩)) (p2 : tmps.getD q undef = .pointer (some ⟨g2, 0, none⟩)) (p3 : tmps.getD r undef = .pointer (some ⟨g3, 0, none⟩))
    (h1 : w.heap[g1]? = some (.cells c1 23 (0, 0))) (h2 : w.heap[g2]? = some (.cells c2 25 (0, 0))) (h3 : w.cell? ⟨g3, 0, none⟩ = some (.bool b)) (s1 : c1.size = 10) (s2 : c2.size = 11) :
    (results fn tmps).run Try.prog w = .ok (.tuple #[.agg c1, .agg c2, .bool b]) w := by
  have p1' : tmps[p]?.getD undef = .pointer (some ⟨g1, 0, none⟩) := by simpa using p1
  have p2' : tmps[q]?.getD undef = .pointer (some ⟨g2, 0, none⟩) := by simpa using p2
  have p3' : tmps[r]?.getD undef = .pointer (some ⟨g3, 0, none⟩) := by simpa using p3
  have i1 : (Try.prog.info? 23).map (·.size) = some 10 := by kernel_rfl
  have i2 : (Try.prog.info? 25).map (·.size) = some 11 := by kernel_rfl
  have l1 := run_loadVar_row (P := Try.prog) w g1 23 23 c1 (0, 0) _ h1 Try.underlying23 rfl (by rw [i1, s1])
  have l2 := run_loadVar_row (P := Try.prog) w g2 25 25 c2 (0, 0) _ h2 Try.underlying25 rfl (by rw [i2, s2])
  have l3 : (loadVar 4 ⟨g3, 0, none⟩).run Try.prog w = .ok (.bool b) w := by
    have := Try.underlying4
    go_simp
  simp [results, h, p1', p2', p3', asAddr, l1, l2, l3]
theorem agOrders2 (w : World) : Calls Try.prog 22 #[] w fun e w' => ∃ g, e = .returned (.map (some g)) ∧ w'.heap[g]? = some (.map ordEs.toArray 5) ∧ Below w.heap.size w w' := by
  refine (agOrders w).mono ?_
  rintro e w1 ⟨rfl, rfl⟩
  exact ⟨_, rfl, heap_alloc_new _ _, ((St.start w).alloc _).fin⟩
theorem leaves_tmps {P : Program} {fn : Func} {t t' : Array Value} {R : Ending → World → Prop} (h : ∀ w, (results fn t).run P w = (results fn t').run P w) : ∀ (ds : List Deferred) (u : FrameMode) (w : World), Leaves P fn t R ds u w → Leaves P fn t' R ds u w
  | [], .returning, w, hl => by
    obtain ⟨v, h1, h2⟩ := hl
    exact ⟨v, by rw [← h]; exact h1, h2⟩
  | [], .panicking chain, w, hl => hl
  | [], .run, w, hl => hl.elim
  | d :: ds, u, w, hl => by
    obtain ⟨h1, fv, cap, f, args, h2, h3, h4⟩ := hl
    refine ⟨h1, fv, cap, f, args, h2, h3, h4.mono ?_⟩
    intro e u' w' h5
    cases e with
    | returned v => exact leaves_tmps h ds _ _ h5
    | panicked c => exact leaves_tmps h ds _ _ h5
    | outgrown => exact h5
theorem res_put3 {P : Program} {fn : Func} {p q r : Tmp} {T U V : TypeId} (h : fn.results = #[.cell p T, .cell q U, .cell r V]) (t : Array Value) (i : Nat) (v : Value) (hp : i ≠ p) (hq : i ≠ q) (hr : i ≠ r) (w : World) :
    (results fn (t.setIfInBounds i v)).run P w = (results fn t).run P w := by
  have e : ∀ j, i ≠ j → (t.setIfInBounds i v)[j]?.getD undef = t[j]?.getD undef := by
    intro j hj; rw [Array.getElem?_setIfInBounds_ne hj]
  simp [results, h, e p hp, e q hq, e r hr]
theorem St.soPtr {w0 w : World} {r : List Thing} {sv : Value} {o : Option SS} (S : St w0 w r) (k : Nat) (hk : r[k]? = some (soT sv o)) : ∃ p, sv = .pointer p := by
  cases o with
  | none => exact ⟨_, S.soNil k hk⟩
  | some s => obtain ⟨g, e, _⟩ := S.soSome k hk; exact ⟨_, e⟩
theorem enterF {n : Nat} (hn : n = 31 ∨ n = 32 ∨ n = 35 ∨ n = 36 ∨ n = 40) (args : Array Value) (w : World) : (callFunc n args).run Try.prog w = .ok (.enter n args) w := by
  rcases hn with rfl | rfl | rfl | rfl | rfl
  · kernel_rfl
  · kernel_rfl
  · kernel_rfl
  · kernel_rfl
  · kernel_rfl
set_option maxRecDepth 100000 in
set_option maxHeartbeats 3200000 in
theorem agTake_yes (S : St w0 w (soT sv o :: tl)) (a : AG) (node : Int) (m : Msg) (now : Int) (hw : oWrites o ≤ 1000000) (t2 : 1 ≤ m.kind) (t3 : m.kind ≤ 5) (t4 : ¬ m.term < a.term) (t5 : ¬ (m.term = a.term ∧ m.gen < a.gen)) :
    Calls Try.prog 9 #[.agg #[.bool true, .int .i64 a.term, .int .i64 a.gen, .int .i64 a.mode, .int .i64 a.job, .int .i64 a.inc, .int .i64 a.version, .int .i64 a.lease, .int .i64 a.worked, .int .i64 a.to_], .int .i64 node, .agg #[.int .i64 m.node, .int .i64 m.kind, .int .i64 m.term, .int .i64 m.gen, .int .i64 m.job, .int .i64 m.inc, .int .i64 m.version, .int .i64 m.epoch, .int .i64 m.until_, .int .i64 m.mode, .int .i64 m.work], .int .i64 now, sv] w fun e w' =>
      e = .returned (.tuple #[(oOrder ({ a with up := true, term := m.term, gen := m.gen } : AG) m now o).1.v, .agg (aTell (oOrder ({ a with up := true, term := m.term, gen := m.gen } : AG) m now o).1 node).cs.toArray, .bool true]) ∧ St w0 w' (soT sv (oOrder ({ a with up := true, term := m.term, gen := m.gen } : AG) m now o).2 :: tl) := by
  obtain ⟨p, rfl⟩ := S.soPtr 0 rfl
  obtain ⟨n, i, hf, hn, hcall⟩ := ordCall m now t2 t3
  have HF := hid hf
  have HN := hid hn
  have HC := hid hcall
  have S6 : St w0 ((((((w.alloc (.cells #[.bool true, .int .i64 a.term, .int .i64 a.gen, .int .i64 a.mode, .int .i64 a.job, .int .i64 a.inc, .int .i64 a.version, .int .i64 a.lease, .int .i64 a.worked, .int .i64 a.to_] 23)).alloc (.cells #[.int .i64 node] 3)).alloc (.cells #[.int .i64 m.node, .int .i64 m.kind, .int .i64 m.term, .int .i64 m.gen, .int .i64 m.job, .int .i64 m.inc, .int .i64 m.version, .int .i64 m.epoch, .int .i64 m.until_, .int .i64 m.mode, .int .i64 m.work] 25)).alloc (.cells #[.bool false, .int .i64 0, .int .i64 0, .int .i64 0, .int .i64 0, .int .i64 0, .int .i64 0, .int .i64 0, .int .i64 0, .int .i64 0] 23)).alloc (.cells #[.int .i64 0, .int .i64 0, .int .i64 0, .int .i64 0, .int .i64 0, .int .i64 0, .int .i64 0, .int .i64 0, .int .i64 0, .int .i64 0, .int .i64 0] 25)).alloc (.cells #[.bool false] 4)) (cellsT w.heap.size 23 ({ a with up := true } : AG).cs :: soT (.pointer p) o :: cellsT (w.heap.size + 1 + 1 + 1 + 1 + 1) 4 [.bool false] :: cellsT (w.heap.size + 1 + 1 + 1 + 1) 25 Msg.zero.cs :: cellsT (w.heap.size + 1 + 1 + 1) 23 AG.zero.cs :: cellsT (w.heap.size + 1 + 1) 25 m.cs :: cellsT (w.heap.size + 1) 3 [.int .i64 node] :: tl) := takeSt S { a with up := true } node m
  clear hf hn hcall S
  have hmf : ∀ (fn : Fn) (first cap : Array Value) (w : World), (Instr.makeFunc fn first cap).run Try.prog w = .ok (.func fn first cap) w := fun _ _ _ _ => rfl
  have g1 : decide (m.term < a.term) = false := decide_eq_false t4
  by_cases h4 : m.term = a.term
  · have g2 : (m.term == a.term) = true := by simpa using h4
    have g3 : decide (m.gen < a.gen) = false := decide_eq_false (fun h => t5 ⟨h4, h⟩)
    clear h4 t4 t5
    go_enter_defers Try.func9, Try.ntmps9
    go_wp2_with fail
    generalize ((((((w.alloc (.cells #[.bool true, .int .i64 a.term, .int .i64 a.gen, .int .i64 a.mode, .int .i64 a.job, .int .i64 a.inc, .int .i64 a.version, .int .i64 a.lease, .int .i64 a.worked, .int .i64 a.to_] 23)).alloc (.cells #[.int .i64 node] 3)).alloc (.cells #[.int .i64 m.node, .int .i64 m.kind, .int .i64 m.term, .int .i64 m.gen, .int .i64 m.job, .int .i64 m.inc, .int .i64 m.version, .int .i64 m.epoch, .int .i64 m.until_, .int .i64 m.mode, .int .i64 m.work] 25)).alloc (.cells #[.bool false, .int .i64 0, .int .i64 0, .int .i64 0, .int .i64 0, .int .i64 0, .int .i64 0, .int .i64 0, .int .i64 0, .int .i64 0] 23)).alloc (.cells #[.int .i64 0, .int .i64 0, .int .i64 0, .int .i64 0, .int .i64 0, .int .i64 0, .int .i64 0, .int .i64 0, .int .i64 0, .int .i64 0, .int .i64 0] 25)).alloc (.cells #[.bool false] 4)) = w6 at *
    generalize w.heap.size + 1 + 1 + 1 + 1 + 1 = gk at *
    generalize w.heap.size + 1 + 1 + 1 + 1 = gt at *
    generalize w.heap.size + 1 + 1 + 1 = go at *
    generalize w.heap.size + 1 + 1 = gm at *
    generalize w.heap.size + 1 = gn at *
    generalize w.heap.size = ga at *
    have c1 := S6.cell 5 rfl 1 rfl
    refine wp_region_held_drew (S := (fun w' => w'.cell? ⟨gm, 1, none⟩ = some (.int .i64 m.kind))) (by kernel_rfl) (by exact S6.drew.cell 5 rfl 1 rfl) (fun hHeld => ?_)
    change wpAnyH _ _ _ _ _ 9 (Array.replicate 9 false) _ _
    refine wpAnyH_take (i := 1) (v := ?v5) (ops_at rfl) (by kernel_rfl) (by kernel_rfl) (by kernel_rfl) (fun c a w h => leaves_tmps (res_put3 rfl _ _ _ (by decide) (by decide) (by decide)) _ _ _ h) (Or.inl ⟨by rfl, ?hy5⟩) (by assumption) ?rest5
    case hy5 => intro w' hSw; (try dsimp only at hSw); go_simp; try with_reducible rfl
    try simp only [Act.put, List.setIfInBounds_toArray, List.set_cons_zero, List.set_cons_succ]
    refine wpAnyH_take (i := 2) (v := ?v6) (ops_at rfl) (by kernel_rfl) (by kernel_rfl) (by kernel_rfl) (fun c a w h => leaves_tmps (res_put3 rfl _ _ _ (by decide) (by decide) (by decide)) _ _ _ h) (Or.inl ⟨by rfl, ?hy6⟩) (by assumption) ?rest6
    case hy6 => intro w' hSw; (try dsimp only at hSw); go_simp; try with_reducible rfl
    try simp only [Act.put, List.setIfInBounds_toArray, List.set_cons_zero, List.set_cons_succ]
    refine wpAnyH_ready (rs := [0]) (by kernel_rfl) (by simp) ?_
    refine AllReadyH.cons (ops_at rfl) (fun K hK => ?_) AllReadyH.nil
    go_simp
    refine (agOrders2 _).mono ?_
    rintro e w7 ⟨gf, rfl, hgf, hb⟩
    have S7 := S6.drew.grow hb
    have hlk := lookOT hgf m.kind (.func (.func n) #[] #[]) i HF.out
    clear c1 hb hgf S6
    refine hK.out _ _ (by exact S7.cell 5 rfl 1 rfl) (fun hHeld => ?_)
    clear hK K
    try simp only [Act.put, List.setIfInBounds_toArray, List.set_cons_zero, List.set_cons_succ]
    refine wpAnyH_ready (rs := [3]) (by kernel_rfl) (by simp) ?_
    refine AllReadyH.cons (ops_at rfl) (fun K hK => ?_) AllReadyH.nil
    go_simp
    refine hK.out _ _ (by exact S7.cell 5 rfl 1 rfl) (fun hHeld => ?_)
    clear hK K
    try simp only [Act.put, List.setIfInBounds_toArray, List.set_cons_zero, List.set_cons_succ]
    refine wpAnyH_take (i := 4) (v := ?v8) (ops_at rfl) (by kernel_rfl) (by kernel_rfl) (by kernel_rfl) (fun c a w h => leaves_tmps (res_put3 rfl _ _ _ (by decide) (by decide) (by decide)) _ _ _ h) (Or.inl ⟨by rfl, ?hy8⟩) (by assumption) ?rest8
    case hy8 => intro w' hSw; (try dsimp only at hSw); go_simp; try with_reducible rfl
    try simp only [Act.put, List.setIfInBounds_toArray, List.set_cons_zero, List.set_cons_succ]
    refine wpAnyH_take (i := 5) (v := ?v9) (ops_at rfl) (by kernel_rfl) (by kernel_rfl) (by kernel_rfl) (fun c a w h => leaves_tmps (res_put3 rfl _ _ _ (by decide) (by decide) (by decide)) _ _ _ h) (Or.inl ⟨by rfl, ?hy9⟩) (by assumption) ?rest9
    case hy9 => intro w' hSw; (try dsimp only at hSw); go_simp; try with_reducible rfl
    try simp only [Act.put, List.setIfInBounds_toArray, List.set_cons_zero, List.set_cons_succ]
    refine wpAnyH_take (i := 6) (v := ?v10) (ops_at rfl) (by kernel_rfl) (by kernel_rfl) (by kernel_rfl) (fun c a w h => leaves_tmps (res_put3 rfl _ _ _ (by decide) (by decide) (by decide)) _ _ _ h) (Or.inl ⟨by rfl, ?hy10⟩) (by assumption) ?rest10
    case hy10 => intro w' hSw; (try dsimp only at hSw); go_simp; try with_reducible rfl
    try simp only [Act.put, List.setIfInBounds_toArray, List.set_cons_zero, List.set_cons_succ]
    refine wpAnyH_take (i := 7) (v := ?v11) (ops_at rfl) (by kernel_rfl) (by kernel_rfl) (by kernel_rfl) (fun c a w h => leaves_tmps (res_put3 rfl _ _ _ (by decide) (by decide) (by decide)) _ _ _ h) (Or.inl ⟨by rfl, ?hy11⟩) (by assumption) ?rest11
    case hy11 => intro w' hSw; (try dsimp only at hSw); go_simp; try with_reducible rfl
    try simp only [Act.put, List.setIfInBounds_toArray, List.set_cons_zero, List.set_cons_succ]
    refine wpAnyH_take (i := 8) (v := ?v12) (ops_at rfl) (by kernel_rfl) (by kernel_rfl) (by kernel_rfl) (fun c a w h => leaves_tmps (res_put3 rfl _ _ _ (by decide) (by decide) (by decide)) _ _ _ h) (Or.inl ⟨by rfl, ?hy12⟩) (by assumption) ?rest12
    case hy12 => intro w' hSw; (try dsimp only at hSw); go_simp; try with_reducible rfl
    try simp only [Act.put, List.setIfInBounds_toArray, List.set_cons_zero, List.set_cons_succ]
    refine wpAnyH_done (by kernel_rfl) ?_ _
    clear hlk
    have a0 := S7.cell 0 rfl 0 rfl
    have a1 := S7.cell 0 rfl 1 rfl
    have a2 := S7.cell 0 rfl 2 rfl
    have m2 := S7.cell 5 rfl 2 rfl
    have m3 := S7.cell 5 rfl 3 rfl
    go_wp2_with fail
    refine wp_region_held_drew (S := (fun w' => w'.cell? ⟨gm, 2, none⟩ = some (.int .i64 m.term) ∧ w'.cell? ⟨gm, 3, none⟩ = some (.int .i64 m.gen))) (by kernel_rfl) (by exact ⟨S7.drew.cell 5 rfl 2 rfl, S7.drew.cell 5 rfl 3 rfl⟩) (fun hHeld => ?_)
    change wpAnyH _ _ _ _ _ 8 (Array.replicate 8 false) _ _
    have f1 := S7.frozen 0 rfl 1
    have f2 := S7.frozen 0 rfl 2
    have S8 : St w0 _ (cellsT ga 23 ({ a with up := true, term := m.term } : AG).cs :: soT (.pointer p) o :: cellsT gk 4 [.bool false] :: cellsT gt 25 Msg.zero.cs :: cellsT go 23 AG.zero.cs :: cellsT gm 25 m.cs :: cellsT gn 3 [.int .i64 node] :: tl) := S7.setCell 0 rfl 1 (.int .i64 m.term)
    refine wpAnyH_take (i := 0) (v := ?v13) (ops_at rfl) (by kernel_rfl) (by kernel_rfl) (by kernel_rfl) (fun c a w h => leaves_tmps (res_put3 rfl _ _ _ (by decide) (by decide) (by decide)) _ _ _ h) (Or.inl ⟨by rfl, ?hy13⟩) (by assumption) ?rest13
    case hy13 => intro w' hSw; (try dsimp only at hSw); go_simp; try with_reducible rfl
    try simp only [Act.put, List.setIfInBounds_toArray, List.set_cons_zero, List.set_cons_succ]
    refine wpAnyH_take (i := 1) (v := ?v14) (ops_at rfl) (by kernel_rfl) (by kernel_rfl) (by kernel_rfl) (fun c a w h => leaves_tmps (res_put3 rfl _ _ _ (by decide) (by decide) (by decide)) _ _ _ h) (Or.inl ⟨by rfl, ?hy14⟩) (by assumption) ?rest14
    case hy14 => intro w' hSw; (try dsimp only at hSw); go_simp; try with_reducible rfl
    try simp only [Act.put, List.setIfInBounds_toArray, List.set_cons_zero, List.set_cons_succ]
    refine wpAnyH_take (i := 2) (v := ?v15) (ops_at rfl) (by kernel_rfl) (by kernel_rfl) (by kernel_rfl) (fun c a w h => leaves_tmps (res_put3 rfl _ _ _ (by decide) (by decide) (by decide)) _ _ _ h) (Or.inl ⟨by rfl, ?hy15⟩) (by assumption) ?rest15
    case hy15 => intro w' hSw; (try dsimp only at hSw); go_simp; try with_reducible rfl
    try simp only [Act.put, List.setIfInBounds_toArray, List.set_cons_zero, List.set_cons_succ]
    refine wpAnyH_take (i := 3) (v := ?v16) (ops_at rfl) (by kernel_rfl) (by kernel_rfl) (by kernel_rfl) (fun c a w h => leaves_tmps (res_put3 rfl _ _ _ (by decide) (by decide) (by decide)) _ _ _ h) (Or.inl ⟨by rfl, ?hy16⟩) (by assumption) ?rest16
    case hy16 => intro w' hSw; (try dsimp only at hSw); go_simp; try with_reducible rfl
    try simp only [Act.put, List.setIfInBounds_toArray, List.set_cons_zero, List.set_cons_succ]
    refine wpAnyH_take (i := 4) (v := ?v17) (ops_at rfl) (by kernel_rfl) (by kernel_rfl) (by kernel_rfl) (fun c a w h => leaves_tmps (res_put3 rfl _ _ _ (by decide) (by decide) (by decide)) _ _ _ h) (Or.inl ⟨by rfl, ?hy17⟩) (by assumption) ?rest17
    case hy17 => intro w' hSw; (try dsimp only at hSw); go_simp; try with_reducible rfl
    try simp only [Act.put, List.setIfInBounds_toArray, List.set_cons_zero, List.set_cons_succ]
    refine wpAnyH_ready (rs := [5]) (by kernel_rfl) (by simp) ?_
    refine AllReadyH.cons (ops_at rfl) (fun K hK => ?_) AllReadyH.nil
    go_simp
    refine hK.out _ _ (by exact ⟨S8.drew.cell 5 rfl 2 rfl, S8.drew.cell 5 rfl 3 rfl⟩) (fun hHeld => ?_)
    clear hK K
    try simp only [Act.put, List.setIfInBounds_toArray, List.set_cons_zero, List.set_cons_succ]
    have S9 : St w0 _ (cellsT ga 23 ({ a with up := true, term := m.term, gen := m.gen } : AG).cs :: soT (.pointer p) o :: cellsT gk 4 [.bool false] :: cellsT gt 25 Msg.zero.cs :: cellsT go 23 AG.zero.cs :: cellsT gm 25 m.cs :: cellsT gn 3 [.int .i64 node] :: tl) := (S8.setCell 0 rfl 2 (.int .i64 m.gen)).drew
    refine wpAnyH_take (i := 6) (v := ?v18) (ops_at rfl) (by kernel_rfl) (by kernel_rfl) (by kernel_rfl) (fun c a w h => leaves_tmps (res_put3 rfl _ _ _ (by decide) (by decide) (by decide)) _ _ _ h) (Or.inl ⟨by rfl, ?hy18⟩) (by assumption) ?rest18
    case hy18 => intro w' hSw; (try dsimp only at hSw); go_simp; try with_reducible rfl
    try simp only [Act.put, List.setIfInBounds_toArray, List.set_cons_zero, List.set_cons_succ]
    refine wpAnyH_ready (rs := [7]) (by kernel_rfl) (by simp) ?_
    refine AllReadyH.cons (ops_at rfl) (fun K hK => ?_) AllReadyH.nil
    go_simp
    refine hK.out _ _ (by exact ⟨S9.cell 5 rfl 2 rfl, S9.cell 5 rfl 3 rfl⟩) (fun hHeld => ?_)
    clear hK K
    try simp only [Act.put, List.setIfInBounds_toArray, List.set_cons_zero, List.set_cons_succ]
    refine wpAnyH_done (by kernel_rfl) ?_ _
    clear hHeld a0 a1 a2 m2 m3 f1 f2 S7 S8
    generalize ((w7.setCell ⟨ga, 1, none⟩ (.int .i64 m.term)).setCell ⟨ga, 2, none⟩ (.int .i64 m.gen)).drew = w9 at *
    have m0 := S9.cell 5 rfl 0 rfl
    have m1 := S9.cell 5 rfl 1 rfl
    have m2 := S9.cell 5 rfl 2 rfl
    have m3 := S9.cell 5 rfl 3 rfl
    have m4 := S9.cell 5 rfl 4 rfl
    have m5 := S9.cell 5 rfl 5 rfl
    have m6 := S9.cell 5 rfl 6 rfl
    have m7 := S9.cell 5 rfl 7 rfl
    have m8 := S9.cell 5 rfl 8 rfl
    have m9 := S9.cell 5 rfl 9 rfl
    have m10 := S9.cell 5 rfl 10 rfl
    have hcf := enterF HN.out
    go_wp2_with fail
    refine (HC.out w0 _ _ ga _ o _ hw S9).mono ?_
    rintro e w10 ⟨rfl, SA⟩
    clear hcf m0 m1 m2 m3 m4 m5 m6 m7 m8 m9 m10 S9
    go_wp2_with fail
    refine leaves_cons (f := 23) (args := #[.pointer (some ⟨ga, 0, none⟩), .pointer (some ⟨gn, 0, none⟩), .pointer (some ⟨go, 0, none⟩), .pointer (some ⟨gt, 0, none⟩), .pointer (some ⟨gk, 0, none⟩)]) (by simp) (by kernel_rfl) ?_
    refine (agDone SA).mono ?_
    rintro e u w11 ⟨rfl, rfl, SB⟩
    exact ⟨_, res_take rfl _ _ go gt gk _ _ true rfl rfl rfl (SB.heap 4 rfl) (SB.heap 3 rfl) (SB.cell 2 rfl 0 rfl) rfl rfl, ⟨rfl, SB.tail.swap.tail.swap.tail.swap.tail.swap.tail.swap.tail⟩⟩
  · have g2 : (m.term == a.term) = false := by simpa using h4
    clear h4 t4 t5
    go_enter_defers Try.func9, Try.ntmps9
    go_wp2_with fail
    generalize ((((((w.alloc (.cells #[.bool true, .int .i64 a.term, .int .i64 a.gen, .int .i64 a.mode, .int .i64 a.job, .int .i64 a.inc, .int .i64 a.version, .int .i64 a.lease, .int .i64 a.worked, .int .i64 a.to_] 23)).alloc (.cells #[.int .i64 node] 3)).alloc (.cells #[.int .i64 m.node, .int .i64 m.kind, .int .i64 m.term, .int .i64 m.gen, .int .i64 m.job, .int .i64 m.inc, .int .i64 m.version, .int .i64 m.epoch, .int .i64 m.until_, .int .i64 m.mode, .int .i64 m.work] 25)).alloc (.cells #[.bool false, .int .i64 0, .int .i64 0, .int .i64 0, .int .i64 0, .int .i64 0, .int .i64 0, .int .i64 0, .int .i64 0, .int .i64 0] 23)).alloc (.cells #[.int .i64 0, .int .i64 0, .int .i64 0, .int .i64 0, .int .i64 0, .int .i64 0, .int .i64 0, .int .i64 0, .int .i64 0, .int .i64 0, .int .i64 0] 25)).alloc (.cells #[.bool false] 4)) = w6 at *
    generalize w.heap.size + 1 + 1 + 1 + 1 + 1 = gk at *
    generalize w.heap.size + 1 + 1 + 1 + 1 = gt at *
    generalize w.heap.size + 1 + 1 + 1 = go at *
    generalize w.heap.size + 1 + 1 = gm at *
    generalize w.heap.size + 1 = gn at *
    generalize w.heap.size = ga at *
    have c1 := S6.cell 5 rfl 1 rfl
    refine wp_region_held_drew (S := (fun w' => w'.cell? ⟨gm, 1, none⟩ = some (.int .i64 m.kind))) (by kernel_rfl) (by exact S6.drew.cell 5 rfl 1 rfl) (fun hHeld => ?_)
    change wpAnyH _ _ _ _ _ 9 (Array.replicate 9 false) _ _
    refine wpAnyH_take (i := 1) (v := ?v19) (ops_at rfl) (by kernel_rfl) (by kernel_rfl) (by kernel_rfl) (fun c a w h => leaves_tmps (res_put3 rfl _ _ _ (by decide) (by decide) (by decide)) _ _ _ h) (Or.inl ⟨by rfl, ?hy19⟩) (by assumption) ?rest19
    case hy19 => intro w' hSw; (try dsimp only at hSw); go_simp; try with_reducible rfl
    try simp only [Act.put, List.setIfInBounds_toArray, List.set_cons_zero, List.set_cons_succ]
    refine wpAnyH_take (i := 2) (v := ?v20) (ops_at rfl) (by kernel_rfl) (by kernel_rfl) (by kernel_rfl) (fun c a w h => leaves_tmps (res_put3 rfl _ _ _ (by decide) (by decide) (by decide)) _ _ _ h) (Or.inl ⟨by rfl, ?hy20⟩) (by assumption) ?rest20
    case hy20 => intro w' hSw; (try dsimp only at hSw); go_simp; try with_reducible rfl
    try simp only [Act.put, List.setIfInBounds_toArray, List.set_cons_zero, List.set_cons_succ]
    refine wpAnyH_ready (rs := [0]) (by kernel_rfl) (by simp) ?_
    refine AllReadyH.cons (ops_at rfl) (fun K hK => ?_) AllReadyH.nil
    go_simp
    refine (agOrders2 _).mono ?_
    rintro e w7 ⟨gf, rfl, hgf, hb⟩
    have S7 := S6.drew.grow hb
    have hlk := lookOT hgf m.kind (.func (.func n) #[] #[]) i HF.out
    clear c1 hb hgf S6
    refine hK.out _ _ (by exact S7.cell 5 rfl 1 rfl) (fun hHeld => ?_)
    clear hK K
    try simp only [Act.put, List.setIfInBounds_toArray, List.set_cons_zero, List.set_cons_succ]
    refine wpAnyH_ready (rs := [3]) (by kernel_rfl) (by simp) ?_
    refine AllReadyH.cons (ops_at rfl) (fun K hK => ?_) AllReadyH.nil
    go_simp
    refine hK.out _ _ (by exact S7.cell 5 rfl 1 rfl) (fun hHeld => ?_)
    clear hK K
    try simp only [Act.put, List.setIfInBounds_toArray, List.set_cons_zero, List.set_cons_succ]
    refine wpAnyH_take (i := 4) (v := ?v22) (ops_at rfl) (by kernel_rfl) (by kernel_rfl) (by kernel_rfl) (fun c a w h => leaves_tmps (res_put3 rfl _ _ _ (by decide) (by decide) (by decide)) _ _ _ h) (Or.inl ⟨by rfl, ?hy22⟩) (by assumption) ?rest22
    case hy22 => intro w' hSw; (try dsimp only at hSw); go_simp; try with_reducible rfl
    try simp only [Act.put, List.setIfInBounds_toArray, List.set_cons_zero, List.set_cons_succ]
    refine wpAnyH_take (i := 5) (v := ?v23) (ops_at rfl) (by kernel_rfl) (by kernel_rfl) (by kernel_rfl) (fun c a w h => leaves_tmps (res_put3 rfl _ _ _ (by decide) (by decide) (by decide)) _ _ _ h) (Or.inl ⟨by rfl, ?hy23⟩) (by assumption) ?rest23
    case hy23 => intro w' hSw; (try dsimp only at hSw); go_simp; try with_reducible rfl
    try simp only [Act.put, List.setIfInBounds_toArray, List.set_cons_zero, List.set_cons_succ]
    refine wpAnyH_take (i := 6) (v := ?v24) (ops_at rfl) (by kernel_rfl) (by kernel_rfl) (by kernel_rfl) (fun c a w h => leaves_tmps (res_put3 rfl _ _ _ (by decide) (by decide) (by decide)) _ _ _ h) (Or.inl ⟨by rfl, ?hy24⟩) (by assumption) ?rest24
    case hy24 => intro w' hSw; (try dsimp only at hSw); go_simp; try with_reducible rfl
    try simp only [Act.put, List.setIfInBounds_toArray, List.set_cons_zero, List.set_cons_succ]
    refine wpAnyH_take (i := 7) (v := ?v25) (ops_at rfl) (by kernel_rfl) (by kernel_rfl) (by kernel_rfl) (fun c a w h => leaves_tmps (res_put3 rfl _ _ _ (by decide) (by decide) (by decide)) _ _ _ h) (Or.inl ⟨by rfl, ?hy25⟩) (by assumption) ?rest25
    case hy25 => intro w' hSw; (try dsimp only at hSw); go_simp; try with_reducible rfl
    try simp only [Act.put, List.setIfInBounds_toArray, List.set_cons_zero, List.set_cons_succ]
    refine wpAnyH_take (i := 8) (v := ?v26) (ops_at rfl) (by kernel_rfl) (by kernel_rfl) (by kernel_rfl) (fun c a w h => leaves_tmps (res_put3 rfl _ _ _ (by decide) (by decide) (by decide)) _ _ _ h) (Or.inl ⟨by rfl, ?hy26⟩) (by assumption) ?rest26
    case hy26 => intro w' hSw; (try dsimp only at hSw); go_simp; try with_reducible rfl
    try simp only [Act.put, List.setIfInBounds_toArray, List.set_cons_zero, List.set_cons_succ]
    refine wpAnyH_done (by kernel_rfl) ?_ _
    clear hlk
    have a0 := S7.cell 0 rfl 0 rfl
    have a1 := S7.cell 0 rfl 1 rfl
    have a2 := S7.cell 0 rfl 2 rfl
    have m2 := S7.cell 5 rfl 2 rfl
    have m3 := S7.cell 5 rfl 3 rfl
    go_wp2_with fail
    refine wp_region_held_drew (S := (fun w' => w'.cell? ⟨gm, 2, none⟩ = some (.int .i64 m.term) ∧ w'.cell? ⟨gm, 3, none⟩ = some (.int .i64 m.gen))) (by kernel_rfl) (by exact ⟨S7.drew.cell 5 rfl 2 rfl, S7.drew.cell 5 rfl 3 rfl⟩) (fun hHeld => ?_)
    change wpAnyH _ _ _ _ _ 8 (Array.replicate 8 false) _ _
    have f1 := S7.frozen 0 rfl 1
    have f2 := S7.frozen 0 rfl 2
    have S8 : St w0 _ (cellsT ga 23 ({ a with up := true, term := m.term } : AG).cs :: soT (.pointer p) o :: cellsT gk 4 [.bool false] :: cellsT gt 25 Msg.zero.cs :: cellsT go 23 AG.zero.cs :: cellsT gm 25 m.cs :: cellsT gn 3 [.int .i64 node] :: tl) := S7.setCell 0 rfl 1 (.int .i64 m.term)
    refine wpAnyH_take (i := 0) (v := ?v27) (ops_at rfl) (by kernel_rfl) (by kernel_rfl) (by kernel_rfl) (fun c a w h => leaves_tmps (res_put3 rfl _ _ _ (by decide) (by decide) (by decide)) _ _ _ h) (Or.inl ⟨by rfl, ?hy27⟩) (by assumption) ?rest27
    case hy27 => intro w' hSw; (try dsimp only at hSw); go_simp; try with_reducible rfl
    try simp only [Act.put, List.setIfInBounds_toArray, List.set_cons_zero, List.set_cons_succ]
    refine wpAnyH_take (i := 1) (v := ?v28) (ops_at rfl) (by kernel_rfl) (by kernel_rfl) (by kernel_rfl) (fun c a w h => leaves_tmps (res_put3 rfl _ _ _ (by decide) (by decide) (by decide)) _ _ _ h) (Or.inl ⟨by rfl, ?hy28⟩) (by assumption) ?rest28
    case hy28 => intro w' hSw; (try dsimp only at hSw); go_simp; try with_reducible rfl
    try simp only [Act.put, List.setIfInBounds_toArray, List.set_cons_zero, List.set_cons_succ]
    refine wpAnyH_take (i := 2) (v := ?v29) (ops_at rfl) (by kernel_rfl) (by kernel_rfl) (by kernel_rfl) (fun c a w h => leaves_tmps (res_put3 rfl _ _ _ (by decide) (by decide) (by decide)) _ _ _ h) (Or.inl ⟨by rfl, ?hy29⟩) (by assumption) ?rest29
    case hy29 => intro w' hSw; (try dsimp only at hSw); go_simp; try with_reducible rfl
    try simp only [Act.put, List.setIfInBounds_toArray, List.set_cons_zero, List.set_cons_succ]
    refine wpAnyH_take (i := 3) (v := ?v30) (ops_at rfl) (by kernel_rfl) (by kernel_rfl) (by kernel_rfl) (fun c a w h => leaves_tmps (res_put3 rfl _ _ _ (by decide) (by decide) (by decide)) _ _ _ h) (Or.inl ⟨by rfl, ?hy30⟩) (by assumption) ?rest30
    case hy30 => intro w' hSw; (try dsimp only at hSw); go_simp; try with_reducible rfl
    try simp only [Act.put, List.setIfInBounds_toArray, List.set_cons_zero, List.set_cons_succ]
    refine wpAnyH_take (i := 4) (v := ?v31) (ops_at rfl) (by kernel_rfl) (by kernel_rfl) (by kernel_rfl) (fun c a w h => leaves_tmps (res_put3 rfl _ _ _ (by decide) (by decide) (by decide)) _ _ _ h) (Or.inl ⟨by rfl, ?hy31⟩) (by assumption) ?rest31
    case hy31 => intro w' hSw; (try dsimp only at hSw); go_simp; try with_reducible rfl
    try simp only [Act.put, List.setIfInBounds_toArray, List.set_cons_zero, List.set_cons_succ]
    refine wpAnyH_ready (rs := [5]) (by kernel_rfl) (by simp) ?_
    refine AllReadyH.cons (ops_at rfl) (fun K hK => ?_) AllReadyH.nil
    go_simp
    refine hK.out _ _ (by exact ⟨S8.drew.cell 5 rfl 2 rfl, S8.drew.cell 5 rfl 3 rfl⟩) (fun hHeld => ?_)
    clear hK K
    try simp only [Act.put, List.setIfInBounds_toArray, List.set_cons_zero, List.set_cons_succ]
    have S9 : St w0 _ (cellsT ga 23 ({ a with up := true, term := m.term, gen := m.gen } : AG).cs :: soT (.pointer p) o :: cellsT gk 4 [.bool false] :: cellsT gt 25 Msg.zero.cs :: cellsT go 23 AG.zero.cs :: cellsT gm 25 m.cs :: cellsT gn 3 [.int .i64 node] :: tl) := (S8.setCell 0 rfl 2 (.int .i64 m.gen)).drew
    refine wpAnyH_take (i := 6) (v := ?v32) (ops_at rfl) (by kernel_rfl) (by kernel_rfl) (by kernel_rfl) (fun c a w h => leaves_tmps (res_put3 rfl _ _ _ (by decide) (by decide) (by decide)) _ _ _ h) (Or.inl ⟨by rfl, ?hy32⟩) (by assumption) ?rest32
    case hy32 => intro w' hSw; (try dsimp only at hSw); go_simp; try with_reducible rfl
    try simp only [Act.put, List.setIfInBounds_toArray, List.set_cons_zero, List.set_cons_succ]
    refine wpAnyH_ready (rs := [7]) (by kernel_rfl) (by simp) ?_
    refine AllReadyH.cons (ops_at rfl) (fun K hK => ?_) AllReadyH.nil
    go_simp
    refine hK.out _ _ (by exact ⟨S9.cell 5 rfl 2 rfl, S9.cell 5 rfl 3 rfl⟩) (fun hHeld => ?_)
    clear hK K
    try simp only [Act.put, List.setIfInBounds_toArray, List.set_cons_zero, List.set_cons_succ]
    refine wpAnyH_done (by kernel_rfl) ?_ _
    clear hHeld a0 a1 a2 m2 m3 f1 f2 S7 S8
    generalize ((w7.setCell ⟨ga, 1, none⟩ (.int .i64 m.term)).setCell ⟨ga, 2, none⟩ (.int .i64 m.gen)).drew = w9 at *
    have m0 := S9.cell 5 rfl 0 rfl
    have m1 := S9.cell 5 rfl 1 rfl
    have m2 := S9.cell 5 rfl 2 rfl
    have m3 := S9.cell 5 rfl 3 rfl
    have m4 := S9.cell 5 rfl 4 rfl
    have m5 := S9.cell 5 rfl 5 rfl
    have m6 := S9.cell 5 rfl 6 rfl
    have m7 := S9.cell 5 rfl 7 rfl
    have m8 := S9.cell 5 rfl 8 rfl
    have m9 := S9.cell 5 rfl 9 rfl
    have m10 := S9.cell 5 rfl 10 rfl
    have hcf := enterF HN.out
    go_wp2_with fail
    refine (HC.out w0 _ _ ga _ o _ hw S9).mono ?_
    rintro e w10 ⟨rfl, SA⟩
    clear hcf m0 m1 m2 m3 m4 m5 m6 m7 m8 m9 m10 S9
    go_wp2_with fail
    refine leaves_cons (f := 23) (args := #[.pointer (some ⟨ga, 0, none⟩), .pointer (some ⟨gn, 0, none⟩), .pointer (some ⟨go, 0, none⟩), .pointer (some ⟨gt, 0, none⟩), .pointer (some ⟨gk, 0, none⟩)]) (by simp) (by kernel_rfl) ?_
    refine (agDone SA).mono ?_
    rintro e u w11 ⟨rfl, rfl, SB⟩
    exact ⟨_, res_take rfl _ _ go gt gk _ _ true rfl rfl rfl (SB.heap 4 rfl) (SB.heap 3 rfl) (SB.cell 2 rfl 0 rfl) rfl rfl, ⟨rfl, SB.tail.swap.tail.swap.tail.swap.tail.swap.tail.swap.tail⟩⟩
theorem St.ne {w0 w : World} {l : List Thing} (S : St w0 w l) (i j : Nat) (hij : i ≠ j) {g h : Nat} {T U : TypeId} {cs ds : List Value} (hi : l[i]? = some (cellsT g T cs)) (hj : l[j]? = some (cellsT h U ds)) : g ≠ h := by
  obtain ⟨_, F, h2, h3⟩ := S
  have x := h2 i _ hi
  have y := h2 j _ hj
  intro e
  subst e
  exact h3 i j g (List.getElem?_eq_some_iff.1 hi).1 (List.getElem?_eq_some_iff.1 hj).1 hij ((x.2.2 g).2 rfl) ((y.2.2 g).2 rfl)
theorem lookAny (k : Int) : ∃ z b, (b = true ↔ (1 ≤ k ∧ k ≤ 5)) ∧ ∀ (w : World) (g : Nat), w.heap[g]? = some (.map ordEs.toArray 5) → (Instr.lookup 66 (.map (some g)) (.int .i64 k) true).run Try.prog w = .ok (.tuple #[z, .bool b]) w := by
  by_cases h : 1 ≤ k ∧ k ≤ 5
  · have hc : k = 1 ∨ k = 2 ∨ k = 3 ∨ k = 4 ∨ k = 5 := by omega
    rcases hc with rfl | rfl | rfl | rfl | rfl
    · exact ⟨_, true, by simp, fun w g hb => lookOT hb 1 _ 0 rfl⟩
    · exact ⟨_, true, by simp, fun w g hb => lookOT hb 2 _ 1 rfl⟩
    · exact ⟨_, true, by simp, fun w g hb => lookOT hb 3 _ 2 rfl⟩
    · exact ⟨_, true, by simp, fun w g hb => lookOT hb 4 _ 3 rfl⟩
    · exact ⟨_, true, by simp, fun w g hb => lookOT hb 5 _ 4 rfl⟩
  · have e : ∀ j : Int, 1 ≤ j → j ≤ 5 → (k == j) = false := fun j h1 h2 => by simp; omega
    have hf : Instr.findNow (.int .i64) (.int .i64 k) ordEs 0 = some none := by
      simp [Instr.findNow, Instr.sameNow, ordEs, e 1, e 2, e 3, e 4, e 5]
    refine ⟨.nilFunc, false, by simpa using h, fun w g hb => ?_⟩
    have hd : Try.prog.underlying 3 = some (.int .i64) := by kernel_rfl
    have hc : ∀ b, (Instr.checkKey b 10000 3 (.int .i64 k)).run Try.prog w = .ok () w := fun b => MapKept.run_checkKey (k := .int .i64 k) hd (by simp [MapKept.IsKey]) b 9999
    have hz : (zeroValue 64).run Try.prog w = .ok .nilFunc w := by kernel_rfl
    simp [Instr.lookup, run_underlying mapOT, MapKept.run_getObj_map hb, hc, MapKept.run_findKey hd hf, Result.andThen, hz]
set_option maxRecDepth 100000 in
set_option maxHeartbeats 3200000 in
theorem agTake_kind (S : St w0 w (soT sv o :: tl)) (a : AG) (node : Int) (m : Msg) (now : Int) (hk : ¬ (1 ≤ m.kind ∧ m.kind ≤ 5)) :
    Calls Try.prog 9 #[.agg #[.bool a.up, .int .i64 a.term, .int .i64 a.gen, .int .i64 a.mode, .int .i64 a.job, .int .i64 a.inc, .int .i64 a.version, .int .i64 a.lease, .int .i64 a.worked, .int .i64 a.to_], .int .i64 node, .agg #[.int .i64 m.node, .int .i64 m.kind, .int .i64 m.term, .int .i64 m.gen, .int .i64 m.job, .int .i64 m.inc, .int .i64 m.version, .int .i64 m.epoch, .int .i64 m.until_, .int .i64 m.mode, .int .i64 m.work], .int .i64 now, sv] w fun e w' =>
      e = .returned (.tuple #[a.v, .agg Msg.zero.cs.toArray, .bool false]) ∧ St w0 w' (soT sv o :: tl) := by
  obtain ⟨p, rfl⟩ := S.soPtr 0 rfl
  obtain ⟨z, b, hb, hl⟩ := lookAny m.kind
  have hb2 : b = false := by cases b; rfl; exact absurd (hb.1 rfl) hk
  subst hb2
  have HL := hid hl
  have HU : Hid True := trivial
  clear hb hl hk
  have S6 : St w0 ((((((w.alloc (.cells #[.bool a.up, .int .i64 a.term, .int .i64 a.gen, .int .i64 a.mode, .int .i64 a.job, .int .i64 a.inc, .int .i64 a.version, .int .i64 a.lease, .int .i64 a.worked, .int .i64 a.to_] 23)).alloc (.cells #[.int .i64 node] 3)).alloc (.cells #[.int .i64 m.node, .int .i64 m.kind, .int .i64 m.term, .int .i64 m.gen, .int .i64 m.job, .int .i64 m.inc, .int .i64 m.version, .int .i64 m.epoch, .int .i64 m.until_, .int .i64 m.mode, .int .i64 m.work] 25)).alloc (.cells #[.bool false, .int .i64 0, .int .i64 0, .int .i64 0, .int .i64 0, .int .i64 0, .int .i64 0, .int .i64 0, .int .i64 0, .int .i64 0] 23)).alloc (.cells #[.int .i64 0, .int .i64 0, .int .i64 0, .int .i64 0, .int .i64 0, .int .i64 0, .int .i64 0, .int .i64 0, .int .i64 0, .int .i64 0, .int .i64 0] 25)).alloc (.cells #[.bool false] 4)) (cellsT w.heap.size 23 a.cs :: soT (.pointer p) o :: cellsT (w.heap.size + 1 + 1 + 1 + 1 + 1) 4 [.bool false] :: cellsT (w.heap.size + 1 + 1 + 1 + 1) 25 Msg.zero.cs :: cellsT (w.heap.size + 1 + 1 + 1) 23 AG.zero.cs :: cellsT (w.heap.size + 1 + 1) 25 m.cs :: cellsT (w.heap.size + 1) 3 [.int .i64 node] :: tl) := takeSt S a node m
  clear S
  go_enter_defers Try.func9, Try.ntmps9
  go_wp2_with fail
  generalize ((((((w.alloc (.cells #[.bool a.up, .int .i64 a.term, .int .i64 a.gen, .int .i64 a.mode, .int .i64 a.job, .int .i64 a.inc, .int .i64 a.version, .int .i64 a.lease, .int .i64 a.worked, .int .i64 a.to_] 23)).alloc (.cells #[.int .i64 node] 3)).alloc (.cells #[.int .i64 m.node, .int .i64 m.kind, .int .i64 m.term, .int .i64 m.gen, .int .i64 m.job, .int .i64 m.inc, .int .i64 m.version, .int .i64 m.epoch, .int .i64 m.until_, .int .i64 m.mode, .int .i64 m.work] 25)).alloc (.cells #[.bool false, .int .i64 0, .int .i64 0, .int .i64 0, .int .i64 0, .int .i64 0, .int .i64 0, .int .i64 0, .int .i64 0, .int .i64 0] 23)).alloc (.cells #[.int .i64 0, .int .i64 0, .int .i64 0, .int .i64 0, .int .i64 0, .int .i64 0, .int .i64 0, .int .i64 0, .int .i64 0, .int .i64 0, .int .i64 0] 25)).alloc (.cells #[.bool false] 4)) = w6 at *
  generalize w.heap.size + 1 + 1 + 1 + 1 + 1 = gk at *
  generalize w.heap.size + 1 + 1 + 1 + 1 = gt at *
  generalize w.heap.size + 1 + 1 + 1 = go at *
  generalize w.heap.size + 1 + 1 = gm at *
  generalize w.heap.size + 1 = gn at *
  generalize w.heap.size = ga at *
  refine wp_region_held_drew (S := (fun w' => w'.cell? ⟨gm, 1, none⟩ = some (.int .i64 m.kind))) (by kernel_rfl) (by exact S6.drew.cell 5 rfl 1 rfl) (fun hHeld => ?_)
  change wpAnyH _ _ _ _ _ 9 (Array.replicate 9 false) _ _
  refine wpAnyH_take (i := 1) (v := ?v33) (ops_at rfl) (by kernel_rfl) (by kernel_rfl) (by kernel_rfl) (fun c a w h => leaves_tmps (res_put3 rfl _ _ _ (by decide) (by decide) (by decide)) _ _ _ h) (Or.inl ⟨by rfl, ?hy33⟩) (by assumption) ?rest33
  case hy33 => intro w' hSw; (try dsimp only at hSw); go_simp; try with_reducible rfl
  try simp only [Act.put, List.setIfInBounds_toArray, List.set_cons_zero, List.set_cons_succ]
  refine wpAnyH_take (i := 2) (v := ?v34) (ops_at rfl) (by kernel_rfl) (by kernel_rfl) (by kernel_rfl) (fun c a w h => leaves_tmps (res_put3 rfl _ _ _ (by decide) (by decide) (by decide)) _ _ _ h) (Or.inl ⟨by rfl, ?hy34⟩) (by assumption) ?rest34
  case hy34 => intro w' hSw; (try dsimp only at hSw); go_simp; try with_reducible rfl
  try simp only [Act.put, List.setIfInBounds_toArray, List.set_cons_zero, List.set_cons_succ]
  refine wpAnyH_ready (rs := [0]) (by kernel_rfl) (by simp) ?_
  refine AllReadyH.cons (ops_at rfl) (fun K hK => ?_) AllReadyH.nil
  go_simp
  refine (agOrders2 _).mono ?_
  rintro e w7 ⟨gf, rfl, hgf, hb⟩
  have S7 := S6.drew.grow hb
  have hlk := HL.out _ _ hgf
  clear hb hgf S6
  refine hK.out _ _ (by exact S7.cell 5 rfl 1 rfl) (fun hHeld => ?_)
  clear hK K
  try simp only [Act.put, List.setIfInBounds_toArray, List.set_cons_zero, List.set_cons_succ]
  refine wpAnyH_ready (rs := [3]) (by kernel_rfl) (by simp) ?_
  refine AllReadyH.cons (ops_at rfl) (fun K hK => ?_) AllReadyH.nil
  go_simp
  refine hK.out _ _ (by exact S7.cell 5 rfl 1 rfl) (fun hHeld => ?_)
  clear hK K
  try simp only [Act.put, List.setIfInBounds_toArray, List.set_cons_zero, List.set_cons_succ]
  refine wpAnyH_take (i := 4) (v := ?v36) (ops_at rfl) (by kernel_rfl) (by kernel_rfl) (by kernel_rfl) (fun c a w h => leaves_tmps (res_put3 rfl _ _ _ (by decide) (by decide) (by decide)) _ _ _ h) (Or.inl ⟨by rfl, ?hy36⟩) (by assumption) ?rest36
  case hy36 => intro w' hSw; (try dsimp only at hSw); go_simp; try with_reducible rfl
  try simp only [Act.put, List.setIfInBounds_toArray, List.set_cons_zero, List.set_cons_succ]
  refine wpAnyH_take (i := 5) (v := ?v37) (ops_at rfl) (by kernel_rfl) (by kernel_rfl) (by kernel_rfl) (fun c a w h => leaves_tmps (res_put3 rfl _ _ _ (by decide) (by decide) (by decide)) _ _ _ h) (Or.inl ⟨by rfl, ?hy37⟩) (by assumption) ?rest37
  case hy37 => intro w' hSw; (try dsimp only at hSw); go_simp; try with_reducible rfl
  try simp only [Act.put, List.setIfInBounds_toArray, List.set_cons_zero, List.set_cons_succ]
  refine wpAnyH_take (i := 6) (v := ?v38) (ops_at rfl) (by kernel_rfl) (by kernel_rfl) (by kernel_rfl) (fun c a w h => leaves_tmps (res_put3 rfl _ _ _ (by decide) (by decide) (by decide)) _ _ _ h) (Or.inl ⟨by rfl, ?hy38⟩) (by assumption) ?rest38
  case hy38 => intro w' hSw; (try dsimp only at hSw); go_simp; try with_reducible rfl
  try simp only [Act.put, List.setIfInBounds_toArray, List.set_cons_zero, List.set_cons_succ]
  refine wpAnyH_take (i := 7) (v := ?v39) (ops_at rfl) (by kernel_rfl) (by kernel_rfl) (by kernel_rfl) (fun c a w h => leaves_tmps (res_put3 rfl _ _ _ (by decide) (by decide) (by decide)) _ _ _ h) (Or.inl ⟨by rfl, ?hy39⟩) (by assumption) ?rest39
  case hy39 => intro w' hSw; (try dsimp only at hSw); go_simp; try with_reducible rfl
  try simp only [Act.put, List.setIfInBounds_toArray, List.set_cons_zero, List.set_cons_succ]
  refine wpAnyH_take (i := 8) (v := ?v40) (ops_at rfl) (by kernel_rfl) (by kernel_rfl) (by kernel_rfl) (fun c a w h => leaves_tmps (res_put3 rfl _ _ _ (by decide) (by decide) (by decide)) _ _ _ h) (Or.inl ⟨by rfl, ?hy40⟩) (by assumption) ?rest40
  case hy40 => intro w' hSw; (try dsimp only at hSw); go_simp; try with_reducible rfl
  try simp only [Act.put, List.setIfInBounds_toArray, List.set_cons_zero, List.set_cons_succ]
  refine wpAnyH_done (by kernel_rfl) ?_ _
  clear hlk hHeld
  have hu := HU.out
  have m2 := S7.cell 5 rfl 2 rfl
  have m3 := S7.cell 5 rfl 3 rfl
  have n1 := S7.ne 4 3 (by decide) rfl rfl
  have n2 := S7.ne 4 2 (by decide) rfl rfl
  have n3 := S7.ne 3 2 (by decide) rfl rfl
  have n4 := S7.ne 0 4 (by decide) rfl rfl
  have kc := S7.cell 2 rfl 0 rfl
  have kf := S7.frozen 2 rfl 0
  have a0 := S7.cell 0 rfl 0 rfl
  have oc0 := S7.cell 4 rfl 0 rfl
  have of0 := S7.frozen 4 rfl 0
  have a1 := S7.cell 0 rfl 1 rfl
  have oc1 := S7.cell 4 rfl 1 rfl
  have of1 := S7.frozen 4 rfl 1
  have a2 := S7.cell 0 rfl 2 rfl
  have oc2 := S7.cell 4 rfl 2 rfl
  have of2 := S7.frozen 4 rfl 2
  have a3 := S7.cell 0 rfl 3 rfl
  have oc3 := S7.cell 4 rfl 3 rfl
  have of3 := S7.frozen 4 rfl 3
  have a4 := S7.cell 0 rfl 4 rfl
  have oc4 := S7.cell 4 rfl 4 rfl
  have of4 := S7.frozen 4 rfl 4
  have a5 := S7.cell 0 rfl 5 rfl
  have oc5 := S7.cell 4 rfl 5 rfl
  have of5 := S7.frozen 4 rfl 5
  have a6 := S7.cell 0 rfl 6 rfl
  have oc6 := S7.cell 4 rfl 6 rfl
  have of6 := S7.frozen 4 rfl 6
  have a7 := S7.cell 0 rfl 7 rfl
  have oc7 := S7.cell 4 rfl 7 rfl
  have of7 := S7.frozen 4 rfl 7
  have a8 := S7.cell 0 rfl 8 rfl
  have oc8 := S7.cell 4 rfl 8 rfl
  have of8 := S7.frozen 4 rfl 8
  have a9 := S7.cell 0 rfl 9 rfl
  have oc9 := S7.cell 4 rfl 9 rfl
  have of9 := S7.frozen 4 rfl 9
  have tc0 := S7.cell 3 rfl 0 rfl
  have tf0 := S7.frozen 3 rfl 0
  have tc1 := S7.cell 3 rfl 1 rfl
  have tf1 := S7.frozen 3 rfl 1
  have tc2 := S7.cell 3 rfl 2 rfl
  have tf2 := S7.frozen 3 rfl 2
  have tc3 := S7.cell 3 rfl 3 rfl
  have tf3 := S7.frozen 3 rfl 3
  have tc4 := S7.cell 3 rfl 4 rfl
  have tf4 := S7.frozen 3 rfl 4
  have tc5 := S7.cell 3 rfl 5 rfl
  have tf5 := S7.frozen 3 rfl 5
  have tc6 := S7.cell 3 rfl 6 rfl
  have tf6 := S7.frozen 3 rfl 6
  have tc7 := S7.cell 3 rfl 7 rfl
  have tf7 := S7.frozen 3 rfl 7
  have tc8 := S7.cell 3 rfl 8 rfl
  have tf8 := S7.frozen 3 rfl 8
  have tc9 := S7.cell 3 rfl 9 rfl
  have tf9 := S7.frozen 3 rfl 9
  have tc10 := S7.cell 3 rfl 10 rfl
  have tf10 := S7.frozen 3 rfl 10
  go_wp2_with fail
  have S8 : St w0 _ (cellsT ga 23 a.cs :: soT (.pointer p) o :: cellsT gk 4 [.bool false] :: cellsT gt 25 Msg.zero.cs :: cellsT go 23 a.cs :: cellsT gm 25 m.cs :: cellsT gn 3 [.int .i64 node] :: tl) := ((((((((((S7.setCell 4 rfl 0 (.bool a.up)).setCell 4 rfl 1 (.int .i64 a.term)).setCell 4 rfl 2 (.int .i64 a.gen)).setCell 4 rfl 3 (.int .i64 a.mode)).setCell 4 rfl 4 (.int .i64 a.job)).setCell 4 rfl 5 (.int .i64 a.inc)).setCell 4 rfl 6 (.int .i64 a.version)).setCell 4 rfl 7 (.int .i64 a.lease)).setCell 4 rfl 8 (.int .i64 a.worked)).setCell 4 rfl 9 (.int .i64 a.to_))
  have S9 : St w0 _ (cellsT ga 23 a.cs :: soT (.pointer p) o :: cellsT gk 4 [.bool false] :: cellsT gt 25 Msg.zero.cs :: cellsT go 23 a.cs :: cellsT gm 25 m.cs :: cellsT gn 3 [.int .i64 node] :: tl) := (((((((((((S8.setCell 3 rfl 0 (.int .i64 0)).setCell 3 rfl 1 (.int .i64 0)).setCell 3 rfl 2 (.int .i64 0)).setCell 3 rfl 3 (.int .i64 0)).setCell 3 rfl 4 (.int .i64 0)).setCell 3 rfl 5 (.int .i64 0)).setCell 3 rfl 6 (.int .i64 0)).setCell 3 rfl 7 (.int .i64 0)).setCell 3 rfl 8 (.int .i64 0)).setCell 3 rfl 9 (.int .i64 0)).setCell 3 rfl 10 (.int .i64 0))
  have SB : St w0 _ (cellsT ga 23 a.cs :: soT (.pointer p) o :: cellsT gk 4 [.bool false] :: cellsT gt 25 Msg.zero.cs :: cellsT go 23 a.cs :: cellsT gm 25 m.cs :: cellsT gn 3 [.int .i64 node] :: tl) := S9.setCell 2 rfl 0 (.bool false)
  exact ⟨_, res_take rfl _ _ go gt gk _ _ false rfl rfl rfl (by exact SB.heap 4 rfl) (by exact SB.heap 3 rfl) (by exact SB.cell 2 rfl 0 rfl) rfl rfl, ⟨rfl, by exact SB.tail.swap.tail.swap.tail.swap.tail.swap.tail.swap.tail⟩⟩
set_option maxRecDepth 100000 in
set_option maxHeartbeats 3200000 in
theorem agTake_rest (S : St w0 w (soT sv o :: tl)) (a : AG) (node : Int) (m : Msg) (now : Int) (hk : 1 ≤ m.kind ∧ m.kind ≤ 5) (h : a.up = false ∨ m.term < a.term ∨ (m.term = a.term ∧ m.gen < a.gen)) :
    Calls Try.prog 9 #[.agg #[.bool a.up, .int .i64 a.term, .int .i64 a.gen, .int .i64 a.mode, .int .i64 a.job, .int .i64 a.inc, .int .i64 a.version, .int .i64 a.lease, .int .i64 a.worked, .int .i64 a.to_], .int .i64 node, .agg #[.int .i64 m.node, .int .i64 m.kind, .int .i64 m.term, .int .i64 m.gen, .int .i64 m.job, .int .i64 m.inc, .int .i64 m.version, .int .i64 m.epoch, .int .i64 m.until_, .int .i64 m.mode, .int .i64 m.work], .int .i64 now, sv] w fun e w' =>
      e = .returned (.tuple #[a.v, .agg Msg.zero.cs.toArray, .bool false]) ∧ St w0 w' (soT sv o :: tl) := by
  obtain ⟨p, rfl⟩ := S.soPtr 0 rfl
  obtain ⟨z, b, hb, hl⟩ := lookAny m.kind
  have hb2 : b = true := hb.2 hk
  subst hb2
  have HL := hid hl
  clear hb hl hk
  by_cases hup : a.up = false
  · have HU : Hid ((!a.up) = true) := by rw [Hid, hup]; rfl
    clear h hup
    have S6 : St w0 ((((((w.alloc (.cells #[.bool a.up, .int .i64 a.term, .int .i64 a.gen, .int .i64 a.mode, .int .i64 a.job, .int .i64 a.inc, .int .i64 a.version, .int .i64 a.lease, .int .i64 a.worked, .int .i64 a.to_] 23)).alloc (.cells #[.int .i64 node] 3)).alloc (.cells #[.int .i64 m.node, .int .i64 m.kind, .int .i64 m.term, .int .i64 m.gen, .int .i64 m.job, .int .i64 m.inc, .int .i64 m.version, .int .i64 m.epoch, .int .i64 m.until_, .int .i64 m.mode, .int .i64 m.work] 25)).alloc (.cells #[.bool false, .int .i64 0, .int .i64 0, .int .i64 0, .int .i64 0, .int .i64 0, .int .i64 0, .int .i64 0, .int .i64 0, .int .i64 0] 23)).alloc (.cells #[.int .i64 0, .int .i64 0, .int .i64 0, .int .i64 0, .int .i64 0, .int .i64 0, .int .i64 0, .int .i64 0, .int .i64 0, .int .i64 0, .int .i64 0] 25)).alloc (.cells #[.bool false] 4)) (cellsT w.heap.size 23 a.cs :: soT (.pointer p) o :: cellsT (w.heap.size + 1 + 1 + 1 + 1 + 1) 4 [.bool false] :: cellsT (w.heap.size + 1 + 1 + 1 + 1) 25 Msg.zero.cs :: cellsT (w.heap.size + 1 + 1 + 1) 23 AG.zero.cs :: cellsT (w.heap.size + 1 + 1) 25 m.cs :: cellsT (w.heap.size + 1) 3 [.int .i64 node] :: tl) := takeSt S a node m
    clear S
    go_enter_defers Try.func9, Try.ntmps9
    go_wp2_with fail
    generalize ((((((w.alloc (.cells #[.bool a.up, .int .i64 a.term, .int .i64 a.gen, .int .i64 a.mode, .int .i64 a.job, .int .i64 a.inc, .int .i64 a.version, .int .i64 a.lease, .int .i64 a.worked, .int .i64 a.to_] 23)).alloc (.cells #[.int .i64 node] 3)).alloc (.cells #[.int .i64 m.node, .int .i64 m.kind, .int .i64 m.term, .int .i64 m.gen, .int .i64 m.job, .int .i64 m.inc, .int .i64 m.version, .int .i64 m.epoch, .int .i64 m.until_, .int .i64 m.mode, .int .i64 m.work] 25)).alloc (.cells #[.bool false, .int .i64 0, .int .i64 0, .int .i64 0, .int .i64 0, .int .i64 0, .int .i64 0, .int .i64 0, .int .i64 0, .int .i64 0] 23)).alloc (.cells #[.int .i64 0, .int .i64 0, .int .i64 0, .int .i64 0, .int .i64 0, .int .i64 0, .int .i64 0, .int .i64 0, .int .i64 0, .int .i64 0, .int .i64 0] 25)).alloc (.cells #[.bool false] 4)) = w6 at *
    generalize w.heap.size + 1 + 1 + 1 + 1 + 1 = gk at *
    generalize w.heap.size + 1 + 1 + 1 + 1 = gt at *
    generalize w.heap.size + 1 + 1 + 1 = go at *
    generalize w.heap.size + 1 + 1 = gm at *
    generalize w.heap.size + 1 = gn at *
    generalize w.heap.size = ga at *
    refine wp_region_held_drew (S := (fun w' => w'.cell? ⟨gm, 1, none⟩ = some (.int .i64 m.kind))) (by kernel_rfl) (by exact S6.drew.cell 5 rfl 1 rfl) (fun hHeld => ?_)
    change wpAnyH _ _ _ _ _ 9 (Array.replicate 9 false) _ _
    refine wpAnyH_take (i := 1) (v := ?v41) (ops_at rfl) (by kernel_rfl) (by kernel_rfl) (by kernel_rfl) (fun c a w h => leaves_tmps (res_put3 rfl _ _ _ (by decide) (by decide) (by decide)) _ _ _ h) (Or.inl ⟨by rfl, ?hy41⟩) (by assumption) ?rest41
    case hy41 => intro w' hSw; (try dsimp only at hSw); go_simp; try with_reducible rfl
    try simp only [Act.put, List.setIfInBounds_toArray, List.set_cons_zero, List.set_cons_succ]
    refine wpAnyH_take (i := 2) (v := ?v42) (ops_at rfl) (by kernel_rfl) (by kernel_rfl) (by kernel_rfl) (fun c a w h => leaves_tmps (res_put3 rfl _ _ _ (by decide) (by decide) (by decide)) _ _ _ h) (Or.inl ⟨by rfl, ?hy42⟩) (by assumption) ?rest42
    case hy42 => intro w' hSw; (try dsimp only at hSw); go_simp; try with_reducible rfl
    try simp only [Act.put, List.setIfInBounds_toArray, List.set_cons_zero, List.set_cons_succ]
    refine wpAnyH_ready (rs := [0]) (by kernel_rfl) (by simp) ?_
    refine AllReadyH.cons (ops_at rfl) (fun K hK => ?_) AllReadyH.nil
    go_simp
    refine (agOrders2 _).mono ?_
    rintro e w7 ⟨gf, rfl, hgf, hb⟩
    have S7 := S6.drew.grow hb
    have hlk := HL.out _ _ hgf
    clear hb hgf S6
    refine hK.out _ _ (by exact S7.cell 5 rfl 1 rfl) (fun hHeld => ?_)
    clear hK K
    try simp only [Act.put, List.setIfInBounds_toArray, List.set_cons_zero, List.set_cons_succ]
    refine wpAnyH_ready (rs := [3]) (by kernel_rfl) (by simp) ?_
    refine AllReadyH.cons (ops_at rfl) (fun K hK => ?_) AllReadyH.nil
    go_simp
    refine hK.out _ _ (by exact S7.cell 5 rfl 1 rfl) (fun hHeld => ?_)
    clear hK K
    try simp only [Act.put, List.setIfInBounds_toArray, List.set_cons_zero, List.set_cons_succ]
    refine wpAnyH_take (i := 4) (v := ?v44) (ops_at rfl) (by kernel_rfl) (by kernel_rfl) (by kernel_rfl) (fun c a w h => leaves_tmps (res_put3 rfl _ _ _ (by decide) (by decide) (by decide)) _ _ _ h) (Or.inl ⟨by rfl, ?hy44⟩) (by assumption) ?rest44
    case hy44 => intro w' hSw; (try dsimp only at hSw); go_simp; try with_reducible rfl
    try simp only [Act.put, List.setIfInBounds_toArray, List.set_cons_zero, List.set_cons_succ]
    refine wpAnyH_take (i := 5) (v := ?v45) (ops_at rfl) (by kernel_rfl) (by kernel_rfl) (by kernel_rfl) (fun c a w h => leaves_tmps (res_put3 rfl _ _ _ (by decide) (by decide) (by decide)) _ _ _ h) (Or.inl ⟨by rfl, ?hy45⟩) (by assumption) ?rest45
    case hy45 => intro w' hSw; (try dsimp only at hSw); go_simp; try with_reducible rfl
    try simp only [Act.put, List.setIfInBounds_toArray, List.set_cons_zero, List.set_cons_succ]
    refine wpAnyH_take (i := 6) (v := ?v46) (ops_at rfl) (by kernel_rfl) (by kernel_rfl) (by kernel_rfl) (fun c a w h => leaves_tmps (res_put3 rfl _ _ _ (by decide) (by decide) (by decide)) _ _ _ h) (Or.inl ⟨by rfl, ?hy46⟩) (by assumption) ?rest46
    case hy46 => intro w' hSw; (try dsimp only at hSw); go_simp; try with_reducible rfl
    try simp only [Act.put, List.setIfInBounds_toArray, List.set_cons_zero, List.set_cons_succ]
    refine wpAnyH_take (i := 7) (v := ?v47) (ops_at rfl) (by kernel_rfl) (by kernel_rfl) (by kernel_rfl) (fun c a w h => leaves_tmps (res_put3 rfl _ _ _ (by decide) (by decide) (by decide)) _ _ _ h) (Or.inl ⟨by rfl, ?hy47⟩) (by assumption) ?rest47
    case hy47 => intro w' hSw; (try dsimp only at hSw); go_simp; try with_reducible rfl
    try simp only [Act.put, List.setIfInBounds_toArray, List.set_cons_zero, List.set_cons_succ]
    refine wpAnyH_take (i := 8) (v := ?v48) (ops_at rfl) (by kernel_rfl) (by kernel_rfl) (by kernel_rfl) (fun c a w h => leaves_tmps (res_put3 rfl _ _ _ (by decide) (by decide) (by decide)) _ _ _ h) (Or.inl ⟨by rfl, ?hy48⟩) (by assumption) ?rest48
    case hy48 => intro w' hSw; (try dsimp only at hSw); go_simp; try with_reducible rfl
    try simp only [Act.put, List.setIfInBounds_toArray, List.set_cons_zero, List.set_cons_succ]
    refine wpAnyH_done (by kernel_rfl) ?_ _
    clear hlk hHeld
    have hu := HU.out
    have m2 := S7.cell 5 rfl 2 rfl
    have m3 := S7.cell 5 rfl 3 rfl
    have n1 := S7.ne 4 3 (by decide) rfl rfl
    have n2 := S7.ne 4 2 (by decide) rfl rfl
    have n3 := S7.ne 3 2 (by decide) rfl rfl
    have n4 := S7.ne 0 4 (by decide) rfl rfl
    have kc := S7.cell 2 rfl 0 rfl
    have kf := S7.frozen 2 rfl 0
    have a0 := S7.cell 0 rfl 0 rfl
    have oc0 := S7.cell 4 rfl 0 rfl
    have of0 := S7.frozen 4 rfl 0
    have a1 := S7.cell 0 rfl 1 rfl
    have oc1 := S7.cell 4 rfl 1 rfl
    have of1 := S7.frozen 4 rfl 1
    have a2 := S7.cell 0 rfl 2 rfl
    have oc2 := S7.cell 4 rfl 2 rfl
    have of2 := S7.frozen 4 rfl 2
    have a3 := S7.cell 0 rfl 3 rfl
    have oc3 := S7.cell 4 rfl 3 rfl
    have of3 := S7.frozen 4 rfl 3
    have a4 := S7.cell 0 rfl 4 rfl
    have oc4 := S7.cell 4 rfl 4 rfl
    have of4 := S7.frozen 4 rfl 4
    have a5 := S7.cell 0 rfl 5 rfl
    have oc5 := S7.cell 4 rfl 5 rfl
    have of5 := S7.frozen 4 rfl 5
    have a6 := S7.cell 0 rfl 6 rfl
    have oc6 := S7.cell 4 rfl 6 rfl
    have of6 := S7.frozen 4 rfl 6
    have a7 := S7.cell 0 rfl 7 rfl
    have oc7 := S7.cell 4 rfl 7 rfl
    have of7 := S7.frozen 4 rfl 7
    have a8 := S7.cell 0 rfl 8 rfl
    have oc8 := S7.cell 4 rfl 8 rfl
    have of8 := S7.frozen 4 rfl 8
    have a9 := S7.cell 0 rfl 9 rfl
    have oc9 := S7.cell 4 rfl 9 rfl
    have of9 := S7.frozen 4 rfl 9
    have tc0 := S7.cell 3 rfl 0 rfl
    have tf0 := S7.frozen 3 rfl 0
    have tc1 := S7.cell 3 rfl 1 rfl
    have tf1 := S7.frozen 3 rfl 1
    have tc2 := S7.cell 3 rfl 2 rfl
    have tf2 := S7.frozen 3 rfl 2
    have tc3 := S7.cell 3 rfl 3 rfl
    have tf3 := S7.frozen 3 rfl 3
    have tc4 := S7.cell 3 rfl 4 rfl
    have tf4 := S7.frozen 3 rfl 4
    have tc5 := S7.cell 3 rfl 5 rfl
    have tf5 := S7.frozen 3 rfl 5
    have tc6 := S7.cell 3 rfl 6 rfl
    have tf6 := S7.frozen 3 rfl 6
    have tc7 := S7.cell 3 rfl 7 rfl
    have tf7 := S7.frozen 3 rfl 7
    have tc8 := S7.cell 3 rfl 8 rfl
    have tf8 := S7.frozen 3 rfl 8
    have tc9 := S7.cell 3 rfl 9 rfl
    have tf9 := S7.frozen 3 rfl 9
    have tc10 := S7.cell 3 rfl 10 rfl
    have tf10 := S7.frozen 3 rfl 10
    go_wp2_with fail
    have S8 : St w0 _ (cellsT ga 23 a.cs :: soT (.pointer p) o :: cellsT gk 4 [.bool false] :: cellsT gt 25 Msg.zero.cs :: cellsT go 23 a.cs :: cellsT gm 25 m.cs :: cellsT gn 3 [.int .i64 node] :: tl) := ((((((((((S7.setCell 4 rfl 0 (.bool a.up)).setCell 4 rfl 1 (.int .i64 a.term)).setCell 4 rfl 2 (.int .i64 a.gen)).setCell 4 rfl 3 (.int .i64 a.mode)).setCell 4 rfl 4 (.int .i64 a.job)).setCell 4 rfl 5 (.int .i64 a.inc)).setCell 4 rfl 6 (.int .i64 a.version)).setCell 4 rfl 7 (.int .i64 a.lease)).setCell 4 rfl 8 (.int .i64 a.worked)).setCell 4 rfl 9 (.int .i64 a.to_))
    have S9 : St w0 _ (cellsT ga 23 a.cs :: soT (.pointer p) o :: cellsT gk 4 [.bool false] :: cellsT gt 25 Msg.zero.cs :: cellsT go 23 a.cs :: cellsT gm 25 m.cs :: cellsT gn 3 [.int .i64 node] :: tl) := (((((((((((S8.setCell 3 rfl 0 (.int .i64 0)).setCell 3 rfl 1 (.int .i64 0)).setCell 3 rfl 2 (.int .i64 0)).setCell 3 rfl 3 (.int .i64 0)).setCell 3 rfl 4 (.int .i64 0)).setCell 3 rfl 5 (.int .i64 0)).setCell 3 rfl 6 (.int .i64 0)).setCell 3 rfl 7 (.int .i64 0)).setCell 3 rfl 8 (.int .i64 0)).setCell 3 rfl 9 (.int .i64 0)).setCell 3 rfl 10 (.int .i64 0))
    have SB : St w0 _ (cellsT ga 23 a.cs :: soT (.pointer p) o :: cellsT gk 4 [.bool false] :: cellsT gt 25 Msg.zero.cs :: cellsT go 23 a.cs :: cellsT gm 25 m.cs :: cellsT gn 3 [.int .i64 node] :: tl) := S9.setCell 2 rfl 0 (.bool false)
    exact ⟨_, res_take rfl _ _ go gt gk _ _ false rfl rfl rfl (by exact SB.heap 4 rfl) (by exact SB.heap 3 rfl) (by exact SB.cell 2 rfl 0 rfl) rfl rfl, ⟨rfl, by exact SB.tail.swap.tail.swap.tail.swap.tail.swap.tail.swap.tail⟩⟩
  have HU : Hid ((!a.up) = false) := by rw [Hid]; simpa using hup
  by_cases h1 : m.term < a.term
  · have g1 : decide (m.term < a.term) = true := decide_eq_true h1
    clear h h1 hup
    have S6 : St w0 ((((((w.alloc (.cells #[.bool a.up, .int .i64 a.term, .int .i64 a.gen, .int .i64 a.mode, .int .i64 a.job, .int .i64 a.inc, .int .i64 a.version, .int .i64 a.lease, .int .i64 a.worked, .int .i64 a.to_] 23)).alloc (.cells #[.int .i64 node] 3)).alloc (.cells #[.int .i64 m.node, .int .i64 m.kind, .int .i64 m.term, .int .i64 m.gen, .int .i64 m.job, .int .i64 m.inc, .int .i64 m.version, .int .i64 m.epoch, .int .i64 m.until_, .int .i64 m.mode, .int .i64 m.work] 25)).alloc (.cells #[.bool false, .int .i64 0, .int .i64 0, .int .i64 0, .int .i64 0, .int .i64 0, .int .i64 0, .int .i64 0, .int .i64 0, .int .i64 0] 23)).alloc (.cells #[.int .i64 0, .int .i64 0, .int .i64 0, .int .i64 0, .int .i64 0, .int .i64 0, .int .i64 0, .int .i64 0, .int .i64 0, .int .i64 0, .int .i64 0] 25)).alloc (.cells #[.bool false] 4)) (cellsT w.heap.size 23 a.cs :: soT (.pointer p) o :: cellsT (w.heap.size + 1 + 1 + 1 + 1 + 1) 4 [.bool false] :: cellsT (w.heap.size + 1 + 1 + 1 + 1) 25 Msg.zero.cs :: cellsT (w.heap.size + 1 + 1 + 1) 23 AG.zero.cs :: cellsT (w.heap.size + 1 + 1) 25 m.cs :: cellsT (w.heap.size + 1) 3 [.int .i64 node] :: tl) := takeSt S a node m
    clear S
    go_enter_defers Try.func9, Try.ntmps9
    go_wp2_with fail
    generalize ((((((w.alloc (.cells #[.bool a.up, .int .i64 a.term, .int .i64 a.gen, .int .i64 a.mode, .int .i64 a.job, .int .i64 a.inc, .int .i64 a.version, .int .i64 a.lease, .int .i64 a.worked, .int .i64 a.to_] 23)).alloc (.cells #[.int .i64 node] 3)).alloc (.cells #[.int .i64 m.node, .int .i64 m.kind, .int .i64 m.term, .int .i64 m.gen, .int .i64 m.job, .int .i64 m.inc, .int .i64 m.version, .int .i64 m.epoch, .int .i64 m.until_, .int .i64 m.mode, .int .i64 m.work] 25)).alloc (.cells #[.bool false, .int .i64 0, .int .i64 0, .int .i64 0, .int .i64 0, .int .i64 0, .int .i64 0, .int .i64 0, .int .i64 0, .int .i64 0] 23)).alloc (.cells #[.int .i64 0, .int .i64 0, .int .i64 0, .int .i64 0, .int .i64 0, .int .i64 0, .int .i64 0, .int .i64 0, .int .i64 0, .int .i64 0, .int .i64 0] 25)).alloc (.cells #[.bool false] 4)) = w6 at *
    generalize w.heap.size + 1 + 1 + 1 + 1 + 1 = gk at *
    generalize w.heap.size + 1 + 1 + 1 + 1 = gt at *
    generalize w.heap.size + 1 + 1 + 1 = go at *
    generalize w.heap.size + 1 + 1 = gm at *
    generalize w.heap.size + 1 = gn at *
    generalize w.heap.size = ga at *
    refine wp_region_held_drew (S := (fun w' => w'.cell? ⟨gm, 1, none⟩ = some (.int .i64 m.kind))) (by kernel_rfl) (by exact S6.drew.cell 5 rfl 1 rfl) (fun hHeld => ?_)
    change wpAnyH _ _ _ _ _ 9 (Array.replicate 9 false) _ _
    refine wpAnyH_take (i := 1) (v := ?v49) (ops_at rfl) (by kernel_rfl) (by kernel_rfl) (by kernel_rfl) (fun c a w h => leaves_tmps (res_put3 rfl _ _ _ (by decide) (by decide) (by decide)) _ _ _ h) (Or.inl ⟨by rfl, ?hy49⟩) (by assumption) ?rest49
    case hy49 => intro w' hSw; (try dsimp only at hSw); go_simp; try with_reducible rfl
    try simp only [Act.put, List.setIfInBounds_toArray, List.set_cons_zero, List.set_cons_succ]
    refine wpAnyH_take (i := 2) (v := ?v50) (ops_at rfl) (by kernel_rfl) (by kernel_rfl) (by kernel_rfl) (fun c a w h => leaves_tmps (res_put3 rfl _ _ _ (by decide) (by decide) (by decide)) _ _ _ h) (Or.inl ⟨by rfl, ?hy50⟩) (by assumption) ?rest50
    case hy50 => intro w' hSw; (try dsimp only at hSw); go_simp; try with_reducible rfl
    try simp only [Act.put, List.setIfInBounds_toArray, List.set_cons_zero, List.set_cons_succ]
    refine wpAnyH_ready (rs := [0]) (by kernel_rfl) (by simp) ?_
    refine AllReadyH.cons (ops_at rfl) (fun K hK => ?_) AllReadyH.nil
    go_simp
    refine (agOrders2 _).mono ?_
    rintro e w7 ⟨gf, rfl, hgf, hb⟩
    have S7 := S6.drew.grow hb
    have hlk := HL.out _ _ hgf
    clear hb hgf S6
    refine hK.out _ _ (by exact S7.cell 5 rfl 1 rfl) (fun hHeld => ?_)
    clear hK K
    try simp only [Act.put, List.setIfInBounds_toArray, List.set_cons_zero, List.set_cons_succ]
    refine wpAnyH_ready (rs := [3]) (by kernel_rfl) (by simp) ?_
    refine AllReadyH.cons (ops_at rfl) (fun K hK => ?_) AllReadyH.nil
    go_simp
    refine hK.out _ _ (by exact S7.cell 5 rfl 1 rfl) (fun hHeld => ?_)
    clear hK K
    try simp only [Act.put, List.setIfInBounds_toArray, List.set_cons_zero, List.set_cons_succ]
    refine wpAnyH_take (i := 4) (v := ?v52) (ops_at rfl) (by kernel_rfl) (by kernel_rfl) (by kernel_rfl) (fun c a w h => leaves_tmps (res_put3 rfl _ _ _ (by decide) (by decide) (by decide)) _ _ _ h) (Or.inl ⟨by rfl, ?hy52⟩) (by assumption) ?rest52
    case hy52 => intro w' hSw; (try dsimp only at hSw); go_simp; try with_reducible rfl
    try simp only [Act.put, List.setIfInBounds_toArray, List.set_cons_zero, List.set_cons_succ]
    refine wpAnyH_take (i := 5) (v := ?v53) (ops_at rfl) (by kernel_rfl) (by kernel_rfl) (by kernel_rfl) (fun c a w h => leaves_tmps (res_put3 rfl _ _ _ (by decide) (by decide) (by decide)) _ _ _ h) (Or.inl ⟨by rfl, ?hy53⟩) (by assumption) ?rest53
    case hy53 => intro w' hSw; (try dsimp only at hSw); go_simp; try with_reducible rfl
    try simp only [Act.put, List.setIfInBounds_toArray, List.set_cons_zero, List.set_cons_succ]
    refine wpAnyH_take (i := 6) (v := ?v54) (ops_at rfl) (by kernel_rfl) (by kernel_rfl) (by kernel_rfl) (fun c a w h => leaves_tmps (res_put3 rfl _ _ _ (by decide) (by decide) (by decide)) _ _ _ h) (Or.inl ⟨by rfl, ?hy54⟩) (by assumption) ?rest54
    case hy54 => intro w' hSw; (try dsimp only at hSw); go_simp; try with_reducible rfl
    try simp only [Act.put, List.setIfInBounds_toArray, List.set_cons_zero, List.set_cons_succ]
    refine wpAnyH_take (i := 7) (v := ?v55) (ops_at rfl) (by kernel_rfl) (by kernel_rfl) (by kernel_rfl) (fun c a w h => leaves_tmps (res_put3 rfl _ _ _ (by decide) (by decide) (by decide)) _ _ _ h) (Or.inl ⟨by rfl, ?hy55⟩) (by assumption) ?rest55
    case hy55 => intro w' hSw; (try dsimp only at hSw); go_simp; try with_reducible rfl
    try simp only [Act.put, List.setIfInBounds_toArray, List.set_cons_zero, List.set_cons_succ]
    refine wpAnyH_take (i := 8) (v := ?v56) (ops_at rfl) (by kernel_rfl) (by kernel_rfl) (by kernel_rfl) (fun c a w h => leaves_tmps (res_put3 rfl _ _ _ (by decide) (by decide) (by decide)) _ _ _ h) (Or.inl ⟨by rfl, ?hy56⟩) (by assumption) ?rest56
    case hy56 => intro w' hSw; (try dsimp only at hSw); go_simp; try with_reducible rfl
    try simp only [Act.put, List.setIfInBounds_toArray, List.set_cons_zero, List.set_cons_succ]
    refine wpAnyH_done (by kernel_rfl) ?_ _
    clear hlk hHeld
    have hu := HU.out
    have m2 := S7.cell 5 rfl 2 rfl
    have m3 := S7.cell 5 rfl 3 rfl
    have n1 := S7.ne 4 3 (by decide) rfl rfl
    have n2 := S7.ne 4 2 (by decide) rfl rfl
    have n3 := S7.ne 3 2 (by decide) rfl rfl
    have n4 := S7.ne 0 4 (by decide) rfl rfl
    have kc := S7.cell 2 rfl 0 rfl
    have kf := S7.frozen 2 rfl 0
    have a0 := S7.cell 0 rfl 0 rfl
    have oc0 := S7.cell 4 rfl 0 rfl
    have of0 := S7.frozen 4 rfl 0
    have a1 := S7.cell 0 rfl 1 rfl
    have oc1 := S7.cell 4 rfl 1 rfl
    have of1 := S7.frozen 4 rfl 1
    have a2 := S7.cell 0 rfl 2 rfl
    have oc2 := S7.cell 4 rfl 2 rfl
    have of2 := S7.frozen 4 rfl 2
    have a3 := S7.cell 0 rfl 3 rfl
    have oc3 := S7.cell 4 rfl 3 rfl
    have of3 := S7.frozen 4 rfl 3
    have a4 := S7.cell 0 rfl 4 rfl
    have oc4 := S7.cell 4 rfl 4 rfl
    have of4 := S7.frozen 4 rfl 4
    have a5 := S7.cell 0 rfl 5 rfl
    have oc5 := S7.cell 4 rfl 5 rfl
    have of5 := S7.frozen 4 rfl 5
    have a6 := S7.cell 0 rfl 6 rfl
    have oc6 := S7.cell 4 rfl 6 rfl
    have of6 := S7.frozen 4 rfl 6
    have a7 := S7.cell 0 rfl 7 rfl
    have oc7 := S7.cell 4 rfl 7 rfl
    have of7 := S7.frozen 4 rfl 7
    have a8 := S7.cell 0 rfl 8 rfl
    have oc8 := S7.cell 4 rfl 8 rfl
    have of8 := S7.frozen 4 rfl 8
    have a9 := S7.cell 0 rfl 9 rfl
    have oc9 := S7.cell 4 rfl 9 rfl
    have of9 := S7.frozen 4 rfl 9
    have tc0 := S7.cell 3 rfl 0 rfl
    have tf0 := S7.frozen 3 rfl 0
    have tc1 := S7.cell 3 rfl 1 rfl
    have tf1 := S7.frozen 3 rfl 1
    have tc2 := S7.cell 3 rfl 2 rfl
    have tf2 := S7.frozen 3 rfl 2
    have tc3 := S7.cell 3 rfl 3 rfl
    have tf3 := S7.frozen 3 rfl 3
    have tc4 := S7.cell 3 rfl 4 rfl
    have tf4 := S7.frozen 3 rfl 4
    have tc5 := S7.cell 3 rfl 5 rfl
    have tf5 := S7.frozen 3 rfl 5
    have tc6 := S7.cell 3 rfl 6 rfl
    have tf6 := S7.frozen 3 rfl 6
    have tc7 := S7.cell 3 rfl 7 rfl
    have tf7 := S7.frozen 3 rfl 7
    have tc8 := S7.cell 3 rfl 8 rfl
    have tf8 := S7.frozen 3 rfl 8
    have tc9 := S7.cell 3 rfl 9 rfl
    have tf9 := S7.frozen 3 rfl 9
    have tc10 := S7.cell 3 rfl 10 rfl
    have tf10 := S7.frozen 3 rfl 10
    go_wp2_with fail
    have S8 : St w0 _ (cellsT ga 23 a.cs :: soT (.pointer p) o :: cellsT gk 4 [.bool false] :: cellsT gt 25 Msg.zero.cs :: cellsT go 23 a.cs :: cellsT gm 25 m.cs :: cellsT gn 3 [.int .i64 node] :: tl) := ((((((((((S7.setCell 4 rfl 0 (.bool a.up)).setCell 4 rfl 1 (.int .i64 a.term)).setCell 4 rfl 2 (.int .i64 a.gen)).setCell 4 rfl 3 (.int .i64 a.mode)).setCell 4 rfl 4 (.int .i64 a.job)).setCell 4 rfl 5 (.int .i64 a.inc)).setCell 4 rfl 6 (.int .i64 a.version)).setCell 4 rfl 7 (.int .i64 a.lease)).setCell 4 rfl 8 (.int .i64 a.worked)).setCell 4 rfl 9 (.int .i64 a.to_))
    have S9 : St w0 _ (cellsT ga 23 a.cs :: soT (.pointer p) o :: cellsT gk 4 [.bool false] :: cellsT gt 25 Msg.zero.cs :: cellsT go 23 a.cs :: cellsT gm 25 m.cs :: cellsT gn 3 [.int .i64 node] :: tl) := (((((((((((S8.setCell 3 rfl 0 (.int .i64 0)).setCell 3 rfl 1 (.int .i64 0)).setCell 3 rfl 2 (.int .i64 0)).setCell 3 rfl 3 (.int .i64 0)).setCell 3 rfl 4 (.int .i64 0)).setCell 3 rfl 5 (.int .i64 0)).setCell 3 rfl 6 (.int .i64 0)).setCell 3 rfl 7 (.int .i64 0)).setCell 3 rfl 8 (.int .i64 0)).setCell 3 rfl 9 (.int .i64 0)).setCell 3 rfl 10 (.int .i64 0))
    have SB : St w0 _ (cellsT ga 23 a.cs :: soT (.pointer p) o :: cellsT gk 4 [.bool false] :: cellsT gt 25 Msg.zero.cs :: cellsT go 23 a.cs :: cellsT gm 25 m.cs :: cellsT gn 3 [.int .i64 node] :: tl) := S9.setCell 2 rfl 0 (.bool false)
    exact ⟨_, res_take rfl _ _ go gt gk _ _ false rfl rfl rfl (by exact SB.heap 4 rfl) (by exact SB.heap 3 rfl) (by exact SB.cell 2 rfl 0 rfl) rfl rfl, ⟨rfl, by exact SB.tail.swap.tail.swap.tail.swap.tail.swap.tail.swap.tail⟩⟩
  have h2 : m.term = a.term ∧ m.gen < a.gen := by
    rcases h with h | h | h
    · exact absurd h hup
    · exact absurd h h1
    · exact h
  have g1 : decide (m.term < a.term) = false := decide_eq_false h1
  have g2 : (m.term == a.term) = true := by simpa using h2.1
  have g3 : decide (m.gen < a.gen) = true := decide_eq_true h2.2
  clear h h1 h2 hup
  have S6 : St w0 ((((((w.alloc (.cells #[.bool a.up, .int .i64 a.term, .int .i64 a.gen, .int .i64 a.mode, .int .i64 a.job, .int .i64 a.inc, .int .i64 a.version, .int .i64 a.lease, .int .i64 a.worked, .int .i64 a.to_] 23)).alloc (.cells #[.int .i64 node] 3)).alloc (.cells #[.int .i64 m.node, .int .i64 m.kind, .int .i64 m.term, .int .i64 m.gen, .int .i64 m.job, .int .i64 m.inc, .int .i64 m.version, .int .i64 m.epoch, .int .i64 m.until_, .int .i64 m.mode, .int .i64 m.work] 25)).alloc (.cells #[.bool false, .int .i64 0, .int .i64 0, .int .i64 0, .int .i64 0, .int .i64 0, .int .i64 0, .int .i64 0, .int .i64 0, .int .i64 0] 23)).alloc (.cells #[.int .i64 0, .int .i64 0, .int .i64 0, .int .i64 0, .int .i64 0, .int .i64 0, .int .i64 0, .int .i64 0, .int .i64 0, .int .i64 0, .int .i64 0] 25)).alloc (.cells #[.bool false] 4)) (cellsT w.heap.size 23 a.cs :: soT (.pointer p) o :: cellsT (w.heap.size + 1 + 1 + 1 + 1 + 1) 4 [.bool false] :: cellsT (w.heap.size + 1 + 1 + 1 + 1) 25 Msg.zero.cs :: cellsT (w.heap.size + 1 + 1 + 1) 23 AG.zero.cs :: cellsT (w.heap.size + 1 + 1) 25 m.cs :: cellsT (w.heap.size + 1) 3 [.int .i64 node] :: tl) := takeSt S a node m
  clear S
  go_enter_defers Try.func9, Try.ntmps9
  go_wp2_with fail
  generalize ((((((w.alloc (.cells #[.bool a.up, .int .i64 a.term, .int .i64 a.gen, .int .i64 a.mode, .int .i64 a.job, .int .i64 a.inc, .int .i64 a.version, .int .i64 a.lease, .int .i64 a.worked, .int .i64 a.to_] 23)).alloc (.cells #[.int .i64 node] 3)).alloc (.cells #[.int .i64 m.node, .int .i64 m.kind, .int .i64 m.term, .int .i64 m.gen, .int .i64 m.job, .int .i64 m.inc, .int .i64 m.version, .int .i64 m.epoch, .int .i64 m.until_, .int .i64 m.mode, .int .i64 m.work] 25)).alloc (.cells #[.bool false, .int .i64 0, .int .i64 0, .int .i64 0, .int .i64 0, .int .i64 0, .int .i64 0, .int .i64 0, .int .i64 0, .int .i64 0] 23)).alloc (.cells #[.int .i64 0, .int .i64 0, .int .i64 0, .int .i64 0, .int .i64 0, .int .i64 0, .int .i64 0, .int .i64 0, .int .i64 0, .int .i64 0, .int .i64 0] 25)).alloc (.cells #[.bool false] 4)) = w6 at *
  generalize w.heap.size + 1 + 1 + 1 + 1 + 1 = gk at *
  generalize w.heap.size + 1 + 1 + 1 + 1 = gt at *
  generalize w.heap.size + 1 + 1 + 1 = go at *
  generalize w.heap.size + 1 + 1 = gm at *
  generalize w.heap.size + 1 = gn at *
  generalize w.heap.size = ga at *
  refine wp_region_held_drew (S := (fun w' => w'.cell? ⟨gm, 1, none⟩ = some (.int .i64 m.kind))) (by kernel_rfl) (by exact S6.drew.cell 5 rfl 1 rfl) (fun hHeld => ?_)
  change wpAnyH _ _ _ _ _ 9 (Array.replicate 9 false) _ _
  refine wpAnyH_take (i := 1) (v := ?v57) (ops_at rfl) (by kernel_rfl) (by kernel_rfl) (by kernel_rfl) (fun c a w h => leaves_tmps (res_put3 rfl _ _ _ (by decide) (by decide) (by decide)) _ _ _ h) (Or.inl ⟨by rfl, ?hy57⟩) (by assumption) ?rest57
  case hy57 => intro w' hSw; (try dsimp only at hSw); go_simp; try with_reducible rfl
  try simp only [Act.put, List.setIfInBounds_toArray, List.set_cons_zero, List.set_cons_succ]
  refine wpAnyH_take (i := 2) (v := ?v58) (ops_at rfl) (by kernel_rfl) (by kernel_rfl) (by kernel_rfl) (fun c a w h => leaves_tmps (res_put3 rfl _ _ _ (by decide) (by decide) (by decide)) _ _ _ h) (Or.inl ⟨by rfl, ?hy58⟩) (by assumption) ?rest58
  case hy58 => intro w' hSw; (try dsimp only at hSw); go_simp; try with_reducible rfl
  try simp only [Act.put, List.setIfInBounds_toArray, List.set_cons_zero, List.set_cons_succ]
  refine wpAnyH_ready (rs := [0]) (by kernel_rfl) (by simp) ?_
  refine AllReadyH.cons (ops_at rfl) (fun K hK => ?_) AllReadyH.nil
  go_simp
  refine (agOrders2 _).mono ?_
  rintro e w7 ⟨gf, rfl, hgf, hb⟩
  have S7 := S6.drew.grow hb
  have hlk := HL.out _ _ hgf
  clear hb hgf S6
  refine hK.out _ _ (by exact S7.cell 5 rfl 1 rfl) (fun hHeld => ?_)
  clear hK K
  try simp only [Act.put, List.setIfInBounds_toArray, List.set_cons_zero, List.set_cons_succ]
  refine wpAnyH_ready (rs := [3]) (by kernel_rfl) (by simp) ?_
  refine AllReadyH.cons (ops_at rfl) (fun K hK => ?_) AllReadyH.nil
  go_simp
  refine hK.out _ _ (by exact S7.cell 5 rfl 1 rfl) (fun hHeld => ?_)
  clear hK K
  try simp only [Act.put, List.setIfInBounds_toArray, List.set_cons_zero, List.set_cons_succ]
  refine wpAnyH_take (i := 4) (v := ?v60) (ops_at rfl) (by kernel_rfl) (by kernel_rfl) (by kernel_rfl) (fun c a w h => leaves_tmps (res_put3 rfl _ _ _ (by decide) (by decide) (by decide)) _ _ _ h) (Or.inl ⟨by rfl, ?hy60⟩) (by assumption) ?rest60
  case hy60 => intro w' hSw; (try dsimp only at hSw); go_simp; try with_reducible rfl
  try simp only [Act.put, List.setIfInBounds_toArray, List.set_cons_zero, List.set_cons_succ]
  refine wpAnyH_take (i := 5) (v := ?v61) (ops_at rfl) (by kernel_rfl) (by kernel_rfl) (by kernel_rfl) (fun c a w h => leaves_tmps (res_put3 rfl _ _ _ (by decide) (by decide) (by decide)) _ _ _ h) (Or.inl ⟨by rfl, ?hy61⟩) (by assumption) ?rest61
  case hy61 => intro w' hSw; (try dsimp only at hSw); go_simp; try with_reducible rfl
  try simp only [Act.put, List.setIfInBounds_toArray, List.set_cons_zero, List.set_cons_succ]
  refine wpAnyH_take (i := 6) (v := ?v62) (ops_at rfl) (by kernel_rfl) (by kernel_rfl) (by kernel_rfl) (fun c a w h => leaves_tmps (res_put3 rfl _ _ _ (by decide) (by decide) (by decide)) _ _ _ h) (Or.inl ⟨by rfl, ?hy62⟩) (by assumption) ?rest62
  case hy62 => intro w' hSw; (try dsimp only at hSw); go_simp; try with_reducible rfl
  try simp only [Act.put, List.setIfInBounds_toArray, List.set_cons_zero, List.set_cons_succ]
  refine wpAnyH_take (i := 7) (v := ?v63) (ops_at rfl) (by kernel_rfl) (by kernel_rfl) (by kernel_rfl) (fun c a w h => leaves_tmps (res_put3 rfl _ _ _ (by decide) (by decide) (by decide)) _ _ _ h) (Or.inl ⟨by rfl, ?hy63⟩) (by assumption) ?rest63
  case hy63 => intro w' hSw; (try dsimp only at hSw); go_simp; try with_reducible rfl
  try simp only [Act.put, List.setIfInBounds_toArray, List.set_cons_zero, List.set_cons_succ]
  refine wpAnyH_take (i := 8) (v := ?v64) (ops_at rfl) (by kernel_rfl) (by kernel_rfl) (by kernel_rfl) (fun c a w h => leaves_tmps (res_put3 rfl _ _ _ (by decide) (by decide) (by decide)) _ _ _ h) (Or.inl ⟨by rfl, ?hy64⟩) (by assumption) ?rest64
  case hy64 => intro w' hSw; (try dsimp only at hSw); go_simp; try with_reducible rfl
  try simp only [Act.put, List.setIfInBounds_toArray, List.set_cons_zero, List.set_cons_succ]
  refine wpAnyH_done (by kernel_rfl) ?_ _
  clear hlk hHeld
  have hu := HU.out
  have m2 := S7.cell 5 rfl 2 rfl
  have m3 := S7.cell 5 rfl 3 rfl
  have n1 := S7.ne 4 3 (by decide) rfl rfl
  have n2 := S7.ne 4 2 (by decide) rfl rfl
  have n3 := S7.ne 3 2 (by decide) rfl rfl
  have n4 := S7.ne 0 4 (by decide) rfl rfl
  have kc := S7.cell 2 rfl 0 rfl
  have kf := S7.frozen 2 rfl 0
  have a0 := S7.cell 0 rfl 0 rfl
  have oc0 := S7.cell 4 rfl 0 rfl
  have of0 := S7.frozen 4 rfl 0
  have a1 := S7.cell 0 rfl 1 rfl
  have oc1 := S7.cell 4 rfl 1 rfl
  have of1 := S7.frozen 4 rfl 1
  have a2 := S7.cell 0 rfl 2 rfl
  have oc2 := S7.cell 4 rfl 2 rfl
  have of2 := S7.frozen 4 rfl 2
  have a3 := S7.cell 0 rfl 3 rfl
  have oc3 := S7.cell 4 rfl 3 rfl
  have of3 := S7.frozen 4 rfl 3
  have a4 := S7.cell 0 rfl 4 rfl
  have oc4 := S7.cell 4 rfl 4 rfl
  have of4 := S7.frozen 4 rfl 4
  have a5 := S7.cell 0 rfl 5 rfl
  have oc5 := S7.cell 4 rfl 5 rfl
  have of5 := S7.frozen 4 rfl 5
  have a6 := S7.cell 0 rfl 6 rfl
  have oc6 := S7.cell 4 rfl 6 rfl
  have of6 := S7.frozen 4 rfl 6
  have a7 := S7.cell 0 rfl 7 rfl
  have oc7 := S7.cell 4 rfl 7 rfl
  have of7 := S7.frozen 4 rfl 7
  have a8 := S7.cell 0 rfl 8 rfl
  have oc8 := S7.cell 4 rfl 8 rfl
  have of8 := S7.frozen 4 rfl 8
  have a9 := S7.cell 0 rfl 9 rfl
  have oc9 := S7.cell 4 rfl 9 rfl
  have of9 := S7.frozen 4 rfl 9
  have tc0 := S7.cell 3 rfl 0 rfl
  have tf0 := S7.frozen 3 rfl 0
  have tc1 := S7.cell 3 rfl 1 rfl
  have tf1 := S7.frozen 3 rfl 1
  have tc2 := S7.cell 3 rfl 2 rfl
  have tf2 := S7.frozen 3 rfl 2
  have tc3 := S7.cell 3 rfl 3 rfl
  have tf3 := S7.frozen 3 rfl 3
  have tc4 := S7.cell 3 rfl 4 rfl
  have tf4 := S7.frozen 3 rfl 4
  have tc5 := S7.cell 3 rfl 5 rfl
  have tf5 := S7.frozen 3 rfl 5
  have tc6 := S7.cell 3 rfl 6 rfl
  have tf6 := S7.frozen 3 rfl 6
  have tc7 := S7.cell 3 rfl 7 rfl
  have tf7 := S7.frozen 3 rfl 7
  have tc8 := S7.cell 3 rfl 8 rfl
  have tf8 := S7.frozen 3 rfl 8
  have tc9 := S7.cell 3 rfl 9 rfl
  have tf9 := S7.frozen 3 rfl 9
  have tc10 := S7.cell 3 rfl 10 rfl
  have tf10 := S7.frozen 3 rfl 10
  go_wp2_with fail
  have S8 : St w0 _ (cellsT ga 23 a.cs :: soT (.pointer p) o :: cellsT gk 4 [.bool false] :: cellsT gt 25 Msg.zero.cs :: cellsT go 23 a.cs :: cellsT gm 25 m.cs :: cellsT gn 3 [.int .i64 node] :: tl) := ((((((((((S7.setCell 4 rfl 0 (.bool a.up)).setCell 4 rfl 1 (.int .i64 a.term)).setCell 4 rfl 2 (.int .i64 a.gen)).setCell 4 rfl 3 (.int .i64 a.mode)).setCell 4 rfl 4 (.int .i64 a.job)).setCell 4 rfl 5 (.int .i64 a.inc)).setCell 4 rfl 6 (.int .i64 a.version)).setCell 4 rfl 7 (.int .i64 a.lease)).setCell 4 rfl 8 (.int .i64 a.worked)).setCell 4 rfl 9 (.int .i64 a.to_))
  have S9 : St w0 _ (cellsT ga 23 a.cs :: soT (.pointer p) o :: cellsT gk 4 [.bool false] :: cellsT gt 25 Msg.zero.cs :: cellsT go 23 a.cs :: cellsT gm 25 m.cs :: cellsT gn 3 [.int .i64 node] :: tl) := (((((((((((S8.setCell 3 rfl 0 (.int .i64 0)).setCell 3 rfl 1 (.int .i64 0)).setCell 3 rfl 2 (.int .i64 0)).setCell 3 rfl 3 (.int .i64 0)).setCell 3 rfl 4 (.int .i64 0)).setCell 3 rfl 5 (.int .i64 0)).setCell 3 rfl 6 (.int .i64 0)).setCell 3 rfl 7 (.int .i64 0)).setCell 3 rfl 8 (.int .i64 0)).setCell 3 rfl 9 (.int .i64 0)).setCell 3 rfl 10 (.int .i64 0))
  have SB : St w0 _ (cellsT ga 23 a.cs :: soT (.pointer p) o :: cellsT gk 4 [.bool false] :: cellsT gt 25 Msg.zero.cs :: cellsT go 23 a.cs :: cellsT gm 25 m.cs :: cellsT gn 3 [.int .i64 node] :: tl) := S9.setCell 2 rfl 0 (.bool false)
  exact ⟨_, res_take rfl _ _ go gt gk _ _ false rfl rfl rfl (by exact SB.heap 4 rfl) (by exact SB.heap 3 rfl) (by exact SB.cell 2 rfl 0 rfl) rfl rfl, ⟨rfl, by exact SB.tail.swap.tail.swap.tail.swap.tail.swap.tail.swap.tail⟩⟩
/-- What Take tells. -/
def TakeV (a : AG) (node : Int) (r : Option (AG × Option SS)) : Value :=
  match r with
  | some x => .tuple #[x.1.v, .agg (aTell x.1 node).cs.toArray, .bool true]
  | none => .tuple #[a.v, .agg Msg.zero.cs.toArray, .bool false]
def TakeO (o : Option SS) (r : Option (AG × Option SS)) : Option SS :=
  match r with
  | some x => x.2
  | none => o
theorem agTake (S : St w0 w (soT sv o :: tl)) (a : AG) (node : Int) (m : Msg) (now : Int) (hw : oWrites o ≤ 1000000) :
    Calls Try.prog 9 #[.agg #[.bool a.up, .int .i64 a.term, .int .i64 a.gen, .int .i64 a.mode, .int .i64 a.job, .int .i64 a.inc, .int .i64 a.version, .int .i64 a.lease, .int .i64 a.worked, .int .i64 a.to_], .int .i64 node, .agg #[.int .i64 m.node, .int .i64 m.kind, .int .i64 m.term, .int .i64 m.gen, .int .i64 m.job, .int .i64 m.inc, .int .i64 m.version, .int .i64 m.epoch, .int .i64 m.until_, .int .i64 m.mode, .int .i64 m.work], .int .i64 now, sv] w fun e w' =>
      e = .returned (TakeV a node (aTake a m now o)) ∧ St w0 w' (soT sv (TakeO o (aTake a m now o)) :: tl) := by
  by_cases ht : takesB a m = true
  · have e : aTake a m now o = some (oOrder { a with term := m.term, gen := m.gen } m now o) := by unfold aTake; rw [if_pos ht]
    rw [e]
    simp only [takesB, Bool.and_eq_true, Bool.not_eq_true', decide_eq_true_eq, Bool.and_eq_false_iff, decide_eq_false_iff_not] at ht
    obtain ⟨t1, t2, t3, t4, t5⟩ := ht
    have := agTake_yes S a node m now hw t2 t3 t4 (fun h => t5.elim (fun h2 => h2 h.1) (fun h2 => h2 h.2))
    clear e t2 t3 t4 t5
    cases a
    simp only at t1
    subst t1
    exact this
  · have e : aTake a m now o = none := by unfold aTake; rw [if_neg ht]
    rw [e]
    by_cases hk : 1 ≤ m.kind ∧ m.kind ≤ 5
    · refine agTake_rest S a node m now hk ?_
      cases hu : a.up
      · exact .inl rfl
      · by_cases h1 : m.term < a.term
        · exact .inr (.inl h1)
        · refine .inr (.inr ?_)
          by_cases h2 : m.term = a.term ∧ m.gen < a.gen
          · exact h2
          · exact absurd (show takesB a m = true by
              unfold takesB
              rw [hu, decide_eq_true hk.1, decide_eq_true hk.2, decide_eq_false h1]
              by_cases h3 : m.term = a.term
              · rw [decide_eq_true h3, decide_eq_false (fun h4 => h2 ⟨h3, h4⟩)]; rfl
              · rw [decide_eq_false h3]; rfl) ht
    · exact agTake_kind S a node m now hk
end
end Go.Proofs.Ytchehnkmmmnonaa
