/- The document's store: Find, Epoch, without, Bytes, Get. The document's store: Epoch, without, Bytes, Get. The document's store as one thing: Bytes, Get, End, Fence, New. The document's store: End, Fence, New, Get. The document's store: Commit. The document's store: Stage. -/
import Derived.Test.YtjfbmgndekfglaaDoorStoreLaws
import Derived.Test.YtjfbmgndekfglaaDoorHeld
namespace Go.Proofs.YtjfbmgndekfglaaDoor
set_option linter.unusedVariables false
set_option linter.unusedSimpArgs false
open Go.RowKit
/-- A checkpoint of the document's store. -/
structure RP where
  job : Int
  ep : Int
  cnt : Bool
  d : BS
def RP.cs (x : RP) : List Value := [.int .i64 x.job, .int .i64 x.ep, .bool x.cnt, .slice x.d.a x.d.n x.d.c]
/-- Bytes that are never written. -/
def poolT (D : List BS) : Thing where
  lies := fun w B F => (∀ x ∈ D, BS.Hd x ∧ At w x.a x.l ∧ ∀ y, x.a = some y → F y.block) ∧ ∀ b, F b → B ≤ b ∧ b < w.heap.size
  touch := fun ⟨h1, h2⟩ ht _ hM => ⟨fun x hx => ⟨(h1 x hx).1, (h1 x hx).2.1.touch ht (fun y hy => hM _ ((h1 x hx).2.2 y hy)), (h1 x hx).2.2⟩, fun b hb => ⟨(h2 b hb).1, Nat.lt_of_lt_of_le (h2 b hb).2 ht.size⟩⟩
  low := fun h => h.2
theorem St.poolNil {w0 w : World} {tl : List Thing} (S : St w0 w tl) : St w0 w (poolT [] :: tl) :=
  (S.push (Below.refl _ _) (y := poolT []) (F := fun _ => False) ⟨fun x hx => by simp at hx, fun _ h => h.elim⟩ (fun _ h => h.elim)).rot
theorem St.poolAdd {w0 w : World} {tl : List Thing} {D : List BS} {a : Option Addr} {n c : Nat} {l : List UInt8} (S : St w0 w (poolT D :: bytesT (.slice a n c) l :: tl)) : St w0 w (poolT (⟨a, n, c, l⟩ :: D) :: tl) := by
  refine S.joinF.turn 0 rfl (y := poolT (⟨a, n, c, l⟩ :: D)) ?_
  rintro F ⟨G, H, ⟨h1, h2⟩, ⟨k1, k2⟩, hd, hF⟩
  obtain ⟨a', c', e', q1, q2, q3, q4, q5⟩ := OwnG.at eBok ((ownB _ _ _ _).2 k1)
  cases e'
  refine ⟨fun x hx => ?_, fun b hb => ?_⟩
  · rcases List.mem_cons.1 hx with rfl | hx
    · exact ⟨Own.hd k1, (atB _ _ _).1 q4, fun y hy => (hF _).2 (.inr ((k2 _).2 (q5 y hy)))⟩
    · obtain ⟨p1, p2, p3⟩ := h1 x hx
      exact ⟨p1, p2, fun y hy => (hF _).2 (.inl (p3 y hy))⟩
  · rcases (hF b).1 hb with hb | hb
    · exact h2 b hb
    · exact own_lt ((ownB _ _ _ _).2 k1) b ((k2 b).1 hb)
theorem St.poolAt {w0 w : World} {tl : List Thing} {D : List BS} (S : St w0 w tl) (k : Nat) (hk : tl[k]? = some (poolT D)) {x : BS} (hx : x ∈ D) : BS.Hd x ∧ At w x.a x.l := by
  obtain ⟨F, h1, _⟩ := S.head k hk
  exact ⟨(h1 x hx).1, (h1 x hx).2.1⟩
structure RS where
  room : Int
  term : Int
  L : List RP
  writes : Nat
def rstC (r : RS) (aL : Option Addr) (cL : Nat) : List Value := [.int .i64 r.room, .int .i64 r.term, .slice aL r.L.length cL, .int .i64 (r.writes : Int)]
def rm (job : Int) (c : Bool) (x : RP) : Bool := decide (x.job = job) && (x.cnt == c)
def rfind (L : List RP) (job : Int) (c : Bool) : Int := match L.findIdx? (rm job c) with | some k => (k : Int) | none => -1
def repoch (L : List RP) (job : Int) (c : Bool) : Int := match L.find? (rm job c) with | some x => x.ep | none => 0
def RPAt (w : World) (A : Addr) (x : RP) : Prop := w.cell? A = some (.int .i64 x.job) ∧ w.cell? { block := A.block, off := A.off + 1 } = some (.int .i64 x.ep) ∧ w.cell? { block := A.block, off := A.off + 2 } = some (.bool x.cnt) ∧ w.cell? { block := A.block, off := A.off + 3 } = some (.slice x.d.a x.d.n x.d.c)
section
variable {w0 w : World} {tl : List Thing} {h : Nat} {aL : Option Addr} {cL : Nat} {r : RS}
end

end Go.Proofs.YtjfbmgndekfglaaDoor

namespace Go.Proofs.YtjfbmgndekfglaaDoor
set_option linter.unusedVariables false
set_option linter.unusedSimpArgs false
open Go.RowKit
section
variable {w0 w : World} {tl : List Thing} {h : Nat} {aL : Option Addr} {cL : Nat} {r : RS}
theorem rfind_cases (L : List RP) (job : Int) (c : Bool) : (rfind L job c = -1 ∧ ∀ x ∈ L, rm job c x = false) ∨ ∃ (k : Nat) (hk : k < L.length), rfind L job c = (k : Int) ∧ rm job c L[k] = true ∧ ∀ j (hj : j < k), rm job c L[j] = false := by
  unfold rfind
  rcases hq : L.findIdx? (rm job c) with _ | k
  · left; exact ⟨rfl, List.findIdx?_eq_none_iff.1 hq⟩
  · right
    obtain ⟨hk, h1, h2⟩ := List.findIdx?_eq_some_iff_getElem.1 hq
    exact ⟨k, hk, rfl, h1, fun j hj => by simpa using h2 j hj⟩
theorem find_of {L : List RP} {p : RP → Bool} {k : Nat} (hk : k < L.length) (h1 : p L[k] = true) (h2 : ∀ j (hj : j < k), p L[j] = false) : L.find? p = some L[k] := by
  rw [List.find?_eq_some_iff_getElem]
  exact ⟨h1, k, hk, rfl, fun j hj => by rw [h2 j hj]; rfl⟩
theorem find_no {L : List RP} {p : RP → Bool} (h : ∀ x ∈ L, p x = false) : L.find? p = none := by
  rw [List.find?_eq_none]; intro x hx; rw [h x hx]; simp
def rwith (L : List RP) (job : Int) (c : Bool) : List RP := L.filter fun x => !rm job c x
theorem rwith_step {L : List RP} {k : Nat} (hk : k < L.length) (job : Int) (c : Bool) : rwith (L.take (k + 1)) job c = rwith (L.take k) job c ++ if rm job c L[k] = true then [] else [L[k]] := by
  unfold rwith
  rw [List.take_succ_eq_append_getElem hk, List.filter_append]
  congr 1
  cases h : rm job c L[k] <;> simp [h]
end

end Go.Proofs.YtjfbmgndekfglaaDoor

namespace Go.Proofs.YtjfbmgndekfglaaDoor
set_option linter.unusedVariables false
set_option linter.unusedSimpArgs false
open Go.RowKit
/-- A checkpoint, wherever its bytes lie. -/
structure PT where
  job : Int
  ep : Int
  cnt : Bool
  l : List UInt8
def RP.pt (x : RP) : PT := ⟨x.job, x.ep, x.cnt, x.d.l⟩
structure QS where
  room : Int
  term : Int
  L : List PT
  writes : Nat
def pm (job : Int) (c : Bool) (x : PT) : Bool := decide (x.job = job) && (x.cnt == c)
def pwith (L : List PT) (job : Int) (c : Bool) : List PT := L.filter fun x => !pm job c x
def pepoch (L : List PT) (job : Int) (c : Bool) : Int := match L.find? (pm job c) with | some x => x.ep | none => 0
def pbytes (L : List PT) : Nat := (L.map fun x => x.l.length).sum
def qStage (q : QS) (term job ep : Int) (b : List UInt8) : Int × QS :=
  if term < q.term then (6, q)
  else if job < 1 ∨ 24 < job ∨ ep < 1 ∨ 1000000 < ep ∨ b.length < 1 ∨ 100 < b.length then (1, q)
  else if ep ≤ pepoch q.L job true ∨ ep < pepoch q.L job false then (6, q)
  else if ep = pepoch q.L job false then (0, q)
  else if q.room < (pbytes (pwith q.L job false) : Int) + b.length then (3, q)
  else (0, { q with L := pwith q.L job false ++ [⟨job, ep, false, b⟩], writes := q.writes + 1 })
def qEnd (q : QS) (job : Int) : QS := { q with L := pwith (pwith q.L job true) job false }
def qCommit (q : QS) (job ep : Int) : Int × QS :=
  if 0 < ep ∧ pepoch q.L job true = ep then (0, q)
  else match q.L.find? (pm job false) with
    | none => (4, q)
    | some x => if x.ep ≠ ep then (4, q) else (0, { qEnd q job with L := (qEnd q job).L ++ [{ x with cnt := true }] })
def qGet (q : QS) (job ep : Int) : Option (List UInt8) := (q.L.find? fun x => decide (x.job = job) && decide (x.ep = ep)).map PT.l
def qFence (q : QS) (term : Int) : QS := { q with term := max q.term term }
def RS.q (r : RS) : QS := ⟨r.room, r.term, r.L.map RP.pt, r.writes⟩
theorem rm_pt (job : Int) (c : Bool) (x : RP) : pm job c x.pt = rm job c x := rfl
theorem rwith_pt (L : List RP) (job : Int) (c : Bool) : (rwith L job c).map RP.pt = pwith (L.map RP.pt) job c := by
  unfold rwith pwith
  rw [List.filter_map]; rfl
theorem repoch_pt (L : List RP) (job : Int) (c : Bool) : repoch L job c = pepoch (L.map RP.pt) job c := by
  unfold repoch pepoch
  rw [List.find?_map]
  have : (pm job c ∘ RP.pt) = rm job c := rfl
  rw [this]
  cases L.find? (rm job c) <;> rfl
/-- Things as one. -/
def allS : List Thing → Thing
  | [] => { lies := fun w B F => ∀ b, ¬ F b, touch := fun h _ _ _ => h, low := fun h b hb => (h b hb).elim }
  | x :: l => sepT x (allS l)
theorem St.allSI {w0 w : World} : ∀ (l tl : List Thing), St w0 w (l ++ tl) → St w0 w (allS l :: tl)
  | [], tl, S => (S.push (Below.refl _ _) (y := allS []) (F := fun _ => False) (fun b h => h) (fun _ h => h.elim)).rot
  | x :: l, tl, S => by
    have h1 : St w0 w (l ++ (tl ++ [x])) := St.conv (St.unrot (y := x) (l := l ++ tl) S) (by simp)
    have h2 := St.allSI l (tl ++ [x]) h1
    exact (St.rot (l := allS l :: tl) h2).joinF
theorem St.allSF {w0 w : World} : ∀ (l tl : List Thing), St w0 w (allS l :: tl) → St w0 w (l ++ tl)
  | [], tl, S => S.tail
  | x :: l, tl, S => by
    have h1 : St w0 w (x :: allS l :: tl) := S.splitF
    have h2 : St w0 w (allS l :: (tl ++ [x])) := St.unrot (y := x) (l := allS l :: tl) h1
    have h3 := St.allSF l (tl ++ [x]) h2
    exact (St.rot (l := l ++ tl) (St.conv h3 (by simp)))
/-- What of a document's store may be told. -/
structure ROk (r : RS) (D : List BS) (q : QS) : Prop where
  q : r.q = q
  mem : ∀ x ∈ r.L, x.d ∈ D
  small : ∀ x ∈ r.L, x.d.n ≤ 100
section
variable {w0 w : World} {tl r : List Thing} {h : Nat} {q : QS}
theorem St.putS {l : List Thing} {k : Nat} {x y : Thing} (h : l[k]? = some x) (S : St w0 w (y :: l.eraseIdx k)) : St w0 w (l.set k y) := S.back (List.getElem?_eq_some_iff.1 h).1
def rsum (L : List RP) (k : Nat) : Nat := ((L.take k).map fun x => x.d.n).sum
theorem rsum_step {L : List RP} {k : Nat} (hk : k < L.length) : rsum L (k + 1) = rsum L k + L[k].d.n := by
  unfold rsum
  rw [List.take_succ_eq_append_getElem hk, List.map_append, List.sum_append]; simp
theorem rsum_le {L : List RP} (h : ∀ x ∈ L, x.d.n ≤ 100) : ∀ k, k ≤ L.length → rsum L k ≤ 100 * k
  | 0, _ => by simp [rsum]
  | k + 1, hk => by
    have h1 := rsum_le h k (by omega)
    have h2 := h _ (List.getElem_mem (show k < L.length by omega))
    rw [rsum_step (by omega)]; omega
end

end Go.Proofs.YtjfbmgndekfglaaDoor

namespace Go.Proofs.YtjfbmgndekfglaaDoor
set_option linter.unusedVariables false
set_option linter.unusedSimpArgs false
open Go.RowKit
section
variable {w0 w : World} {tl r0 : List Thing} {h : Nat} {aL : Option Addr} {cL : Nat} {r : RS}
def rEnd (r : RS) (job : Int) : RS := { r with L := rwith (rwith r.L job true) job false }
theorem rwith_len (L : List RP) (job : Int) (c : Bool) : (rwith L job c).length ≤ L.length := List.length_filter_le _ _
def RS.new (room : Int) : RS := ⟨max 0 room, 0, [], 0⟩
def rgm (job ep : Int) (x : RP) : Bool := decide (x.job = job) && decide (x.ep = ep)
def rGetV (L : List RP) (job ep : Int) : Value := match L.find? (rgm job ep) with
  | none => .tuple #[.slice none 0 0, .bool false]
  | some x => .tuple #[.slice x.d.a x.d.n x.d.c, .bool true]
end

end Go.Proofs.YtjfbmgndekfglaaDoor

namespace Go.Proofs.YtjfbmgndekfglaaDoor
set_option linter.unusedVariables false
set_option linter.unusedSimpArgs false
open Go.RowKit
section
variable {w0 w : World} {tl r0 : List Thing} {h : Nat} {aL : Option Addr} {cL : Nat} {r : RS}
def rCommit (r : RS) (job ep : Int) : Int × RS :=
  if 0 < ep ∧ repoch r.L job true = ep then (0, r)
  else match r.L.find? (rm job false) with
    | none => (4, r)
    | some x => if x.ep ≠ ep then (4, r) else (0, { rEnd r job with L := (rEnd r job).L ++ [{ x with cnt := true }] })
theorem rEnd_len (r : RS) (job : Int) : (rEnd r job).L.length ≤ r.L.length := Nat.le_trans (rwith_len _ _ _) (rwith_len _ _ _)
end

end Go.Proofs.YtjfbmgndekfglaaDoor

namespace Go.Proofs.YtjfbmgndekfglaaDoor
set_option linter.unusedVariables false
set_option linter.unusedSimpArgs false
open Go.RowKit
section
variable {w0 w : World} {tl r0 : List Thing} {h : Nat} {q : QS}
theorem rwith_mem {L : List RP} {job : Int} {c : Bool} {x : RP} (hx : x ∈ rwith L job c) : x ∈ L := (List.mem_filter.1 hx).1
theorem rsum_all {L : List RP} (hd : ∀ x ∈ L, x.d.l.length = x.d.n) : rsum L L.length = pbytes (L.map RP.pt) := by
  unfold rsum pbytes
  rw [List.take_length, List.map_map]
  congr 1
  apply List.map_congr_left
  intro x hx
  exact (hd x hx).symm
end

end Go.Proofs.YtjfbmgndekfglaaDoor
