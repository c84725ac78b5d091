/- Watch: objects as things; the map of gangs. -/
import Derived.Test.YtilobmefomoemaaWatch
import Derived.Laws.IdiomRangeMap
namespace Go.Proofs.Ytilobmefomoemaa
set_option linter.unusedVariables false
set_option linter.unusedSimpArgs false
open Go.RowKit
/-- A block that is a given object. -/
def objT (g : Nat) (o : Obj) : Thing where
  lies := fun w B F => B ≤ g ∧ w.heap[g]? = some o ∧ ∀ b, F b ↔ b = g
  touch := fun ⟨h1, h2, h3⟩ ht hB hM => ⟨h1, by rw [ht.block g (Array.getElem?_eq_some_iff.1 h2).1 (hM g ((h3 g).2 rfl))]; exact h2, h3⟩
  low := fun ⟨h1, h2, h3⟩ b hb => by rw [h3 b] at hb; subst hb; exact ⟨h1, (Array.getElem?_eq_some_iff.1 h2).1⟩
def putO (w : World) (g : Nat) (o : Obj) : World := { w with heap := w.heap.setIfInBounds g o }
theorem St.newObj {w0 w : World} {l : List Thing} (S : St w0 w l) (o : Obj) : St w0 (w.alloc o) (l ++ [objT w.heap.size o]) :=
  S.push ((Below.refl _ _).alloc (Nat.le_refl _) _) (F := fun b => b = w.heap.size) ⟨S.size, heap_alloc_new w o, fun b => Iff.rfl⟩ (fun b hb => by subst hb; exact Nat.le_refl _)
theorem St.obj {w0 w : World} {l : List Thing} (S : St w0 w l) (k : Nat) {g : Nat} {o : Obj} (h : l[k]? = some (objT g o)) : w.heap[g]? = some o := by
  obtain ⟨F, ⟨h1, h2, h3⟩, h4⟩ := S.step k h
  exact h2
theorem putO_touch {M : Nat → Prop} {w : World} {g : Nat} {o : Obj} (hM : M g) : Touch M w (putO w g o) :=
  ⟨rfl, rfl, rfl, by show _ ≤ (w.heap.setIfInBounds g o).size; simp, fun k hk hn => by
    show (w.heap.setIfInBounds g o)[k]? = _
    rw [Array.getElem?_setIfInBounds_ne (fun e => hn (by subst e; exact hM))]⟩
theorem St.putObj {w0 w : World} {l : List Thing} (S : St w0 w l) (k : Nat) {g : Nat} {o : Obj} (h : l[k]? = some (objT g o)) (o' : Obj) : St w0 (putO w g o') (l.set k (objT g o')) := by
  obtain ⟨F, ⟨h1, h2, h3⟩, h4⟩ := S.step k h
  refine h4 _ _ F ⟨h1, ?_, h3⟩ (putO_touch ((h3 g).2 rfl)) (fun b hb => .inl hb)
  show (w.heap.setIfInBounds g o')[g]? = _
  have := (Array.getElem?_eq_some_iff.1 h2).1
  simp [this]
structure GE where
  job : Int
  inc : Int
  a : Option Addr
  c : Nat
  L : List AG
def GE.key (x : GE) : Value := .agg #[.int .i64 x.job, .int .i64 x.inc]
def GE.sl (x : GE) : Value := .slice x.a x.L.length x.c
def GE.own (x : GE) : Thing := ownT eAG x.sl x.L
def gEnt (i : Nat) (x : GE) : MapEntry := { key := x.key, val := x.sl, born := i }
def gEs : Nat → List GE → List MapEntry
  | _, [] => []
  | n, x :: l => gEnt n x :: gEs (n + 1) l
theorem gEs_len : ∀ (G : List GE) (n : Nat), (gEs n G).length = G.length
  | [], _ => rfl
  | x :: l, n => by rw [gEs, List.length_cons, gEs_len l, List.length_cons]
theorem gEs_get : ∀ (G : List GE) (n k : Nat), (gEs n G)[k]? = (G[k]?).map (gEnt (n + k))
  | [], _, _ => by simp [gEs]
  | x :: l, n, 0 => by simp [gEs]
  | x :: l, n, k + 1 => by rw [gEs, List.getElem?_cons_succ, gEs_get l, List.getElem?_cons_succ, show n + 1 + k = n + (k + 1) by omega]
theorem gEs_app (G : List GE) (x : GE) : ∀ n, gEs n (G ++ [x]) = gEs n G ++ [gEnt (n + G.length) x] := by
  induction G with
  | nil => intro n; simp [gEs]
  | cons y l ih => intro n; rw [List.cons_append, gEs, ih, gEs, List.cons_append, List.length_cons, show n + 1 + l.length = n + (l.length + 1) by omega]
theorem gEs_set : ∀ (G : List GE) (n k : Nat) (x y : GE), G[k]? = some x → y.key = x.key → gEs n (G.set k y) = (gEs n G).modify k (fun e => { e with key := x.key, val := y.sl })
  | [], _, _, _, _, h, _ => by simp at h
  | z :: l, n, 0, x, y, h, hk => by
    simp only [List.getElem?_cons_zero, Option.some.injEq] at h
    subst h
    simp [gEs, gEnt, hk]
  | z :: l, n, k + 1, x, y, h, hk => by
    rw [List.set_cons_succ, gEs, gEs, gEs_set l (n + 1) k x y (by simpa using h) hk]
    simp
def gAt (j i : Int) (x : GE) : Bool := decide ([j, i] = [x.job, x.inc])
theorem gAt_iff {j i : Int} {x : GE} : gAt j i x = true ↔ x.job = j ∧ x.inc = i := by
  unfold gAt
  simp only [decide_eq_true_eq, List.cons.injEq, and_true]
  exact ⟨fun h => ⟨h.1.symm, h.2.symm⟩, fun h => ⟨h.1.symm, h.2.symm⟩⟩
theorem gangT_ : Try.prog.underlying 56 = some (.struct (Try.prog.fieldsOf 56)) := by kernel_rfl
theorem mapGT : Try.prog.underlying 53 = some (.map 56 26) := by kernel_rfl
theorem gangEq (j i j' i' : Int) (w : World) : (Op.equal 56 (.agg #[.int .i64 j, .int .i64 i]) (.agg #[.int .i64 j', .int .i64 i'])).run Try.prog w = .ok (decide ([j, i] = [j', i'])) w := by
  have := run_equalIn_agg (P := Try.prog) w 9999 56 #[.int .i64 j, .int .i64 i] #[.int .i64 j', .int .i64 i'] gangT_ (by kernel_rfl)
  unfold Op.equal
  rw [show Op.maxDepth = 9999 + 1 from rfl, this]
  exact eqFs_ints 9998 [j, i] [j', i'] w _ 0 (by kernel_rfl) (by kernel_rfl) (by kernel_rfl)
theorem findG (j i : Int) (w : World) : ∀ (G : List GE) (n m : Nat), (Instr.findAsking 56 (.agg #[.int .i64 j, .int .i64 i]) (gEs n G) m).run Try.prog w = .ok ((G.findIdx? (gAt j i)).map fun k => (m + k, ((G[k]?).map GE.sl).getD (.slice none 0 0))) w
  | [], n, m => by simp [gEs, Instr.findAsking]
  | x :: l, n, m => by
    rw [gEs, Instr.findAsking]
    simp only [Sem.run_bind]
    rw [show (gEnt n x).key = .agg #[.int .i64 x.job, .int .i64 x.inc] from rfl, gangEq]
    simp only [Result.andThen_ok]
    rw [List.findIdx?_cons]
    cases h : gAt j i x
    · have h2 : decide ([j, i] = [x.job, x.inc]) = false := h
      rw [h2]
      simp only [Bool.false_eq_true, if_false]
      rw [findG j i w l (n + 1) (m + 1)]
      cases hx : l.findIdx? (gAt j i) with
      | none => simp
      | some k => simp [Nat.add_assoc, Nat.add_comm 1 k]
    · have h2 : decide ([j, i] = [x.job, x.inc]) = true := h
      rw [h2]
      simp [gEnt]
theorem findKeyG (j i : Int) (w : World) (G : List GE) : (Instr.findKey 56 (.agg #[.int .i64 j, .int .i64 i]) (gEs 0 G)).run Try.prog w = .ok ((G.findIdx? (gAt j i)).map fun k => (k, ((G[k]?).map GE.sl).getD (.slice none 0 0))) w := by
  have h := findG j i w G 0 0
  simp only [Nat.zero_add] at h
  unfold Instr.findKey
  simp only [Sem.run_bind, run_underlying gangT_, Result.andThen_ok]
  cases G with
  | nil => simp [gEs, Instr.findNow]
  | cons x l =>
    rw [gEs] at h ⊢
    simp only [Instr.findNow, Instr.sameNow]
    exact h
theorem keyG (e : Bool) (j i : Int) (w : World) : (Instr.checkKey e 10000 56 (.agg #[.int .i64 j, .int .i64 i])).run Try.prog w = .ok () w := by kernel_rfl
def gVal (G : List GE) (j i : Int) : Value := match G.find? (gAt j i) with | some x => x.sl | none => .slice none 0 0
theorem lookG {w : World} {g n : Nat} {G : List GE} (hb : w.heap[g]? = some (.map (gEs 0 G).toArray n)) (j i : Int) :
    (Instr.lookup 53 (.map (some g)) (.agg #[.int .i64 j, .int .i64 i]) false).run Try.prog w = .ok (gVal G j i) w := by
  have hz : (zeroValue 26).run Try.prog w = .ok (.slice none 0 0) w := by kernel_rfl
  have hk := findKeyG j i w G
  unfold gVal
  cases hf : G.findIdx? (gAt j i) with
  | none =>
    rw [hf] at hk
    have h2 : G.find? (gAt j i) = none := by
      rw [List.find?_eq_none]
      intro x hx
      have := List.findIdx?_eq_none_iff.1 hf x hx
      simp [this]
    rw [h2]
    simp [Instr.lookup, run_underlying mapGT, MapKept.run_getObj_map hb, keyG, hk, hz, Result.andThen]
  | some k =>
    rw [hf] at hk
    obtain ⟨hl, h1, h3⟩ := List.findIdx?_eq_some_iff_getElem.1 hf
    have h2 : G.find? (gAt j i) = some G[k] := List.find?_eq_some_iff_getElem.2 ⟨h1, k, hl, rfl, fun q hq => by simpa using h3 q hq⟩
    rw [h2]
    simp only [Option.map_some, List.getElem?_eq_getElem hl, Option.getD_some] at hk
    simp [Instr.lookup, run_underlying mapGT, MapKept.run_getObj_map hb, keyG, hk, Result.andThen]
def gPut (G : List GE) (j i : Int) (a : Option Addr) (c : Nat) (L : List AG) : List GE :=
  match G.findIdx? (gAt j i) with
  | some k => G.set k ⟨j, i, a, c, L⟩
  | none => G ++ [⟨j, i, a, c, L⟩]
theorem gPut_len (G : List GE) (j i : Int) (a : Option Addr) (c : Nat) (L : List AG) : (gPut G j i a c L).length = if (G.findIdx? (gAt j i)).isSome = true then G.length else G.length + 1 := by
  unfold gPut
  cases h : G.findIdx? (gAt j i) <;> simp
theorem putG {w : World} {g : Nat} {G : List GE} (hb : w.heap[g]? = some (.map (gEs 0 G).toArray G.length)) (j i : Int) (a : Option Addr) (c : Nat) (L : List AG) :
    (Instr.mapUpdate 53 (.map (some g)) (.agg #[.int .i64 j, .int .i64 i]) (.slice a L.length c)).run Try.prog w = .ok () (putO w g (.map (gEs 0 (gPut G j i a c L)).toArray (gPut G j i a c L).length)) := by
  have hk := findKeyG j i w G
  have hset : ∀ o, (setObj g o).run Try.prog w = .ok () (putO w g o) := fun o => MapKept.run_setObj_map o hb
  rw [gPut_len]
  cases hf : G.findIdx? (gAt j i) with
  | none =>
    rw [hf] at hk
    have e : gPut G j i a c L = G ++ [⟨j, i, a, c, L⟩] := by unfold gPut; rw [hf]
    have e2 : (gEs 0 (G ++ [⟨j, i, a, c, L⟩])).toArray = (gEs 0 G).toArray.push { key := .agg #[.int .i64 j, .int .i64 i], val := .slice a L.length c, born := G.length } := by
      rw [gEs_app]; simp [gEnt, GE.key, GE.sl]
    rw [e, e2]
    simp [Instr.mapUpdate, run_underlying mapGT, MapKept.run_getObj_map hb, keyG, hk, hset, Result.andThen]
  | some k =>
    rw [hf] at hk
    obtain ⟨hl, h1, h3⟩ := List.findIdx?_eq_some_iff_getElem.1 hf
    have e : gPut G j i a c L = G.set k ⟨j, i, a, c, L⟩ := by unfold gPut; rw [hf]
    have hkey : G[k].key = .agg #[.int .i64 j, .int .i64 i] := by
      obtain ⟨q1, q2⟩ := gAt_iff.1 h1
      unfold GE.key; rw [q1, q2]
    have e2 := gEs_set G 0 k G[k] ⟨j, i, a, c, L⟩ (List.getElem?_eq_getElem hl) (by rw [hkey]; rfl)
    have hst : ∀ q, (Instr.keyThatStays (.agg #[.int .i64 j, .int .i64 i]) (.agg #[.int .i64 j, .int .i64 i])).run Try.prog q = .ok (.agg #[.int .i64 j, .int .i64 i]) q := fun q => by
      unfold Instr.keyThatStays
      rw [if_pos (by simp [Instr.sameBits])]
      rfl
    have hge : ((gEs 0 G).toArray[k]?).map (·.key) = some (.agg #[.int .i64 j, .int .i64 i]) := by
      rw [List.getElem?_toArray, gEs_get, List.getElem?_eq_getElem hl]
      simp [gEnt, hkey]
    rw [e, e2]
    have hge2 : (Option.map (fun x => x.key) (gEs 0 G)[k]?).getD (.agg #[.int .i64 j, .int .i64 i]) = .agg #[.int .i64 j, .int .i64 i] := by
      rw [List.getElem?_toArray] at hge
      rw [hge]; rfl
    simp only [Instr.mapUpdate, Sem.run_bind, run_underlying mapGT, MapKept.run_getObj_map hb, keyG, hk, Result.andThen_ok, Option.map_some, List.getElem?_toArray, hge2, hst, hset]
    rw [hkey]
    simp [GE.sl]
end Go.Proofs.Ytilobmefomoemaa
