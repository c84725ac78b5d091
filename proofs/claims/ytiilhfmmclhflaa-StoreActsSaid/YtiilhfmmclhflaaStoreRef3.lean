/- The document's store as one thing: Bytes, Get, End, Fence, New. -/
import Derived.Test.YtiilhfmmclhflaaStoreRef2
namespace Go.Proofs.Ytiilhfmmclhflaa
set_option linter.unusedVariables false
set_option linter.unusedSimpArgs false
open Go.RowKit
/-- A checkpoint, wherever its bytes lie. -/
structure PT where
  job : Int
  ep : Int
  cnt : Bool
  l : List UInt8
def RP.pt (x : RP) : PT := ⟨x.job, x.ep, x.cnt, x.d.l⟩
structure QS where
  room : Int
  term : Int
  L : List PT
  writes : Nat
def pm (job : Int) (c : Bool) (x : PT) : Bool := decide (x.job = job) && (x.cnt == c)
def pwith (L : List PT) (job : Int) (c : Bool) : List PT := L.filter fun x => !pm job c x
def pepoch (L : List PT) (job : Int) (c : Bool) : Int := match L.find? (pm job c) with | some x => x.ep | none => 0
def pbytes (L : List PT) : Nat := (L.map fun x => x.l.length).sum
def qStage (q : QS) (term job ep : Int) (b : List UInt8) : Int × QS :=
  if term < q.term then (6, q)
  else if job < 1 ∨ 24 < job ∨ ep < 1 ∨ 1000000 < ep ∨ b.length < 1 ∨ 100 < b.length then (1, q)
  else if ep ≤ pepoch q.L job true ∨ ep < pepoch q.L job false then (6, q)
  else if ep = pepoch q.L job false then (0, q)
  else if q.room < (pbytes (pwith q.L job false) : Int) + b.length then (3, q)
  else (0, { q with L := pwith q.L job false ++ [⟨job, ep, false, b⟩], writes := q.writes + 1 })
def qEnd (q : QS) (job : Int) : QS := { q with L := pwith (pwith q.L job true) job false }
def qCommit (q : QS) (job ep : Int) : Int × QS :=
  if 0 < ep ∧ pepoch q.L job true = ep then (0, q)
  else match q.L.find? (pm job false) with
    | none => (4, q)
    | some x => if x.ep ≠ ep then (4, q) else (0, { qEnd q job with L := (qEnd q job).L ++ [{ x with cnt := true }] })
def qGet (q : QS) (job ep : Int) : Option (List UInt8) := (q.L.find? fun x => decide (x.job = job) && decide (x.ep = ep)).map PT.l
def qFence (q : QS) (term : Int) : QS := { q with term := max q.term term }
def RS.q (r : RS) : QS := ⟨r.room, r.term, r.L.map RP.pt, r.writes⟩
theorem rm_pt (job : Int) (c : Bool) (x : RP) : pm job c x.pt = rm job c x := rfl
theorem rwith_pt (L : List RP) (job : Int) (c : Bool) : (rwith L job c).map RP.pt = pwith (L.map RP.pt) job c := by
  unfold rwith pwith
  rw [List.filter_map]; rfl
theorem repoch_pt (L : List RP) (job : Int) (c : Bool) : repoch L job c = pepoch (L.map RP.pt) job c := by
  unfold repoch pepoch
  rw [List.find?_map]
  have : (pm job c ∘ RP.pt) = rm job c := rfl
  rw [this]
  cases L.find? (rm job c) <;> rfl
/-- Things as one. -/
def allS : List Thing → Thing
  | [] => { lies := fun w B F => ∀ b, ¬ F b, touch := fun h _ _ _ => h, low := fun h b hb => (h b hb).elim }
  | x :: l => sepT x (allS l)
theorem St.allSI {w0 w : World} : ∀ (l tl : List Thing), St w0 w (l ++ tl) → St w0 w (allS l :: tl)
  | [], tl, S => (S.push (Below.refl _ _) (y := allS []) (F := fun _ => False) (fun b h => h) (fun _ h => h.elim)).rot
  | x :: l, tl, S => by
    have h1 : St w0 w (l ++ (tl ++ [x])) := St.conv (St.unrot (y := x) (l := l ++ tl) S) (by simp)
    have h2 := St.allSI l (tl ++ [x]) h1
    exact (St.rot (l := allS l :: tl) h2).joinF
theorem St.allSF {w0 w : World} : ∀ (l tl : List Thing), St w0 w (allS l :: tl) → St w0 w (l ++ tl)
  | [], tl, S => S.tail
  | x :: l, tl, S => by
    have h1 : St w0 w (x :: allS l :: tl) := S.splitF
    have h2 : St w0 w (allS l :: (tl ++ [x])) := St.unrot (y := x) (l := allS l :: tl) h1
    have h3 := St.allSF l (tl ++ [x]) h2
    exact (St.rot (l := l ++ tl) (St.conv h3 (by simp)))
/-- What of a document's store may be told. -/
structure ROk (r : RS) (D : List BS) (q : QS) : Prop where
  q : r.q = q
  mem : ∀ x ∈ r.L, x.d ∈ D
  small : ∀ x ∈ r.L, x.d.n ≤ 100
def rstT (h : Nat) (q : QS) : Thing := exT fun (y : RS × Option Addr × Nat × List BS) => andT (ROk y.1 y.2.2.2 q) (allS (rstL h y.2.1 y.2.2.1 y.1 [poolT y.2.2.2]))
section
variable {w0 w : World} {tl r : List Thing} {h : Nat} {q : QS}
theorem St.rstO (S : St w0 w (rstT h q :: tl)) : ∃ r aL cL D, ROk r D q ∧ St w0 w (rstL h aL cL r (poolT D :: tl)) := by
  obtain ⟨⟨r, aL, cL, D⟩, S⟩ := S.exF
  obtain ⟨h, S⟩ := S.andF
  exact ⟨r, aL, cL, D, h, St.allSF _ _ S⟩
theorem St.rstI {r : RS} {aL : Option Addr} {cL : Nat} {D : List BS} (h1 : ROk r D q) (S : St w0 w (rstL h aL cL r (poolT D :: tl))) : St w0 w (rstT h q :: tl) :=
  St.exI (r, aL, cL, D) (St.andI h1 (St.allSI (rstL h aL cL r [poolT D]) tl S))
theorem St.putS {l : List Thing} {k : Nat} {x y : Thing} (h : l[k]? = some x) (S : St w0 w (y :: l.eraseIdx k)) : St w0 w (l.set k y) := S.back (List.getElem?_eq_some_iff.1 h).1
def rsum (L : List RP) (k : Nat) : Nat := ((L.take k).map fun x => x.d.n).sum
theorem rsum_step {L : List RP} {k : Nat} (hk : k < L.length) : rsum L (k + 1) = rsum L k + L[k].d.n := by
  unfold rsum
  rw [List.take_succ_eq_append_getElem hk, List.map_append, List.sum_append]; simp
theorem rsum_le {L : List RP} (h : ∀ x ∈ L, x.d.n ≤ 100) : ∀ k, k ≤ L.length → rsum L k ≤ 100 * k
  | 0, _ => by simp [rsum]
  | k + 1, hk => by
    have h1 := rsum_le h k (by omega)
    have h2 := h _ (List.getElem_mem (show k < L.length by omega))
    rw [rsum_step (by omega)]; omega
set_option maxRecDepth 10000 in
theorem rsBytes_any (a : Option Addr) (L : List RP) (n cap : Nat) (w : World) (hn : L.length = n) (hm : n ≤ 100000) (hA : AtG eRP w a L) (hs : ∀ x ∈ L, x.d.n ≤ 100) :
    Calls Try.prog 30 #[.slice a n cap] w fun e w' => e = .returned (.int .i64 (rsum L n : Int)) ∧ w = w' := by
  have HN := hid hn
  have HA := hid hA
  have HSm := hid hs
  clear hn hA hs
  go_enter Try.func30, Try.ntmps30
  go_wp2_with fail
  go_loop [3, 4] (fun s q => ∃ k : Nat, k ≤ n ∧ q = .int .i64 k ∧ s = .int .i64 (rsum L k : Int)) (fun _ q => n - (intOf q).toNat)
  case atStart => exact ⟨0, Nat.zero_le _, rfl, by simp [rsum]⟩
  case round =>
    obtain ⟨k, hk, rfl, rfl⟩ := hrel
    by_cases hlt : k < n
    case neg =>
      have g0 : decide ((k : Int) < (n : Int)) = false := decide_eq_false (by omega)
      have g0n : decide (k < n) = false := decide_eq_false (by omega)
      have e : k = n := by omega
      subst e
      clear hlt
      go_wp2
      go_ret
      exact ⟨rfl, rfl⟩
    have g0 : decide ((k : Int) < (n : Int)) = true := decide_eq_true (by omega)
    have g0n : decide (k < n) = true := decide_eq_true (by omega)
    have hkl : k < L.length := by rw [HN.out]; exact hlt
    have i0 := fun wx => idxRP a n cap (fun h => HA.out.ok (by omega)) k hlt wx
    obtain ⟨y0, y1, y2, y3⟩ := HA.out.rpAt hkl
    have hst := rsum_step hkl
    have hle := rsum_le HSm.out k (by omega)
    have hx := HSm.out _ (List.getElem_mem hkl)
    generalize L[k] = x at *
    generalize adr a (k * 4) = A at *
    obtain ⟨U, hU⟩ : ∃ U, rsum L k = U := ⟨_, rfl⟩
    rw [hU] at hst hle ⊢
    have HST := hid hst
    clear hst hU
    go_wp2
    go_round
    case rel => exact ⟨k + 1, by omega, by go_num, by rw [HST.out]; go_num⟩
    case measure => simp [intOf]; omega
end

end Go.Proofs.Ytiilhfmmclhflaa
