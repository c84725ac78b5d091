/- The document's store: Find, Epoch, without, Bytes, Get. -/
import Derived.Test.YtiilhfmmclhflaaStoreActs
namespace Go.Proofs.Ytiilhfmmclhflaa
set_option linter.unusedVariables false
set_option linter.unusedSimpArgs false
open Go.RowKit
/-- A checkpoint of the document's store. -/
structure RP where
  job : Int
  ep : Int
  cnt : Bool
  d : BS
def RP.cs (x : RP) : List Value := [.int .i64 x.job, .int .i64 x.ep, .bool x.cnt, .slice x.d.a x.d.n x.d.c]
def eRP : Elt RP := { T := 47, E := 92, s := 4, byt := 48, z := .agg #[.int .i64 0, .int .i64 0, .bool false, .slice none 0 0], enc := RP.cs }
theorem eRPok : eRP.Ok := ⟨fun _ => rfl, fun x u hu => by
  simp only [eRP, RP.cs, List.mem_cons, List.not_mem_nil, or_false] at hu
  rcases hu with rfl | rfl | rfl | rfl <;> rfl, by decide, by kernel_rfl, by kernel_rfl, by rfl⟩
/-- Bytes that are never written. -/
def poolT (D : List BS) : Thing where
  lies := fun w B F => (∀ x ∈ D, BS.Hd x ∧ At w x.a x.l ∧ ∀ y, x.a = some y → F y.block) ∧ ∀ b, F b → B ≤ b ∧ b < w.heap.size
  touch := fun ⟨h1, h2⟩ ht _ hM => ⟨fun x hx => ⟨(h1 x hx).1, (h1 x hx).2.1.touch ht (fun y hy => hM _ ((h1 x hx).2.2 y hy)), (h1 x hx).2.2⟩, fun b hb => ⟨(h2 b hb).1, Nat.lt_of_lt_of_le (h2 b hb).2 ht.size⟩⟩
  low := fun h => h.2
theorem St.poolNil {w0 w : World} {tl : List Thing} (S : St w0 w tl) : St w0 w (poolT [] :: tl) :=
  (S.push (Below.refl _ _) (y := poolT []) (F := fun _ => False) ⟨fun x hx => by simp at hx, fun _ h => h.elim⟩ (fun _ h => h.elim)).rot
theorem St.poolAdd {w0 w : World} {tl : List Thing} {D : List BS} {a : Option Addr} {n c : Nat} {l : List UInt8} (S : St w0 w (poolT D :: bytesT (.slice a n c) l :: tl)) : St w0 w (poolT (⟨a, n, c, l⟩ :: D) :: tl) := by
  refine S.joinF.turn 0 rfl (y := poolT (⟨a, n, c, l⟩ :: D)) ?_
  rintro F ⟨G, H, ⟨h1, h2⟩, ⟨k1, k2⟩, hd, hF⟩
  obtain ⟨a', c', e', q1, q2, q3, q4, q5⟩ := OwnG.at eBok ((ownB _ _ _ _).2 k1)
  cases e'
  refine ⟨fun x hx => ?_, fun b hb => ?_⟩
  · rcases List.mem_cons.1 hx with rfl | hx
    · exact ⟨Own.hd k1, (atB _ _ _).1 q4, fun y hy => (hF _).2 (.inr ((k2 _).2 (q5 y hy)))⟩
    · obtain ⟨p1, p2, p3⟩ := h1 x hx
      exact ⟨p1, p2, fun y hy => (hF _).2 (.inl (p3 y hy))⟩
  · rcases (hF b).1 hb with hb | hb
    · exact h2 b hb
    · exact own_lt ((ownB _ _ _ _).2 k1) b ((k2 b).1 hb)
theorem St.poolAt {w0 w : World} {tl : List Thing} {D : List BS} (S : St w0 w tl) (k : Nat) (hk : tl[k]? = some (poolT D)) {x : BS} (hx : x ∈ D) : BS.Hd x ∧ At w x.a x.l := by
  obtain ⟨F, h1, _⟩ := S.head k hk
  exact ⟨(h1 x hx).1, (h1 x hx).2.1⟩
structure RS where
  room : Int
  term : Int
  L : List RP
  writes : Nat
def rstC (r : RS) (aL : Option Addr) (cL : Nat) : List Value := [.int .i64 r.room, .int .i64 r.term, .slice aL r.L.length cL, .int .i64 (r.writes : Int)]
def rstL (h : Nat) (aL : Option Addr) (cL : Nat) (r : RS) (tl : List Thing) : List Thing := cellsT h 49 (rstC r aL cL) :: ownT eRP (.slice aL r.L.length cL) r.L :: tl
def rm (job : Int) (c : Bool) (x : RP) : Bool := decide (x.job = job) && (x.cnt == c)
def rfind (L : List RP) (job : Int) (c : Bool) : Int := match L.findIdx? (rm job c) with | some k => (k : Int) | none => -1
def repoch (L : List RP) (job : Int) (c : Bool) : Int := match L.find? (rm job c) with | some x => x.ep | none => 0
def RPAt (w : World) (A : Addr) (x : RP) : Prop := w.cell? A = some (.int .i64 x.job) ∧ w.cell? { block := A.block, off := A.off + 1 } = some (.int .i64 x.ep) ∧ w.cell? { block := A.block, off := A.off + 2 } = some (.bool x.cnt) ∧ w.cell? { block := A.block, off := A.off + 3 } = some (.slice x.d.a x.d.n x.d.c)
theorem AtG.rpAt {w : World} {a : Option Addr} {l : List RP} (h : AtG eRP w a l) {k : Nat} (hk : k < l.length) : RPAt w (adr a (k * 4)) l[k] := by
  have hj : ∀ j, j < 4 → w.cell? ((adr a (k * 4)).add j) = (eRP.enc l[k])[j]? := by
    intro j hj
    have := (h k hk).2 j hj
    rw [show eRP.s = 4 from rfl, ← adr_two] at this
    exact this
  exact ⟨hj 0 (by decide), hj 1 (by decide), hj 2 (by decide), hj 3 (by decide)⟩
theorem idxRP (a : Option Addr) (n cap : Nat) (hn : 0 < n → a.isSome = true) (k : Nat) (hk : k < n) (wx : World) :
    (Instr.indexAt 47 (.slice a n cap) (.int .i64 (k : Int))).run Try.prog wx = .ok (.pointer (some (adr a (k * 4)))) wx := idxG eRPok a n cap hn k k rfl hk wx
section
variable {w0 w : World} {tl : List Thing} {h : Nat} {aL : Option Addr} {cL : Nat} {r : RS}
set_option maxRecDepth 10000 in
set_option maxHeartbeats 1600000 in
theorem rsFind_any (S : St w0 w (rstL h aL cL r tl)) (hm : r.L.length ≤ 1000000) (job : Int) (c : Bool) :
    Calls Try.prog 52 #[.pointer (some ⟨h, 0, none⟩), .int .i64 job, .bool c] w fun e w' => e = .returned (.int .i64 (rfind r.L job c)) ∧ w = w' := by
  have c0 := S.cell 0 rfl 2 rfl
  have hAt := (S.slG eRPok 1 rfl).2.2.2.2
  have HAt := hid hAt
  obtain ⟨L, hL⟩ : ∃ L, r.L = L := ⟨_, rfl⟩
  rw [hL] at hm HAt c0 ⊢
  obtain ⟨n, hn⟩ : ∃ n, L.length = n := ⟨_, rfl⟩
  rw [hn] at hm c0
  have HN := hid hn
  clear hn hL hAt S
  go_enter Try.func52, Try.ntmps52
  go_wp2_with fail
  go_loop [7] (fun q => ∃ k : Nat, k ≤ n ∧ q = .int .i64 k ∧ ∀ i (h : i < L.length), i < k → rm job c L[i] = false) (fun q => n - (intOf q).toNat)
  case atStart => exact ⟨0, Nat.zero_le _, rfl, fun i h hi => by omega⟩
  case round =>
    obtain ⟨k, hk, rfl, hall⟩ := hrel
    have HAll := hid hall
    clear hall
    by_cases hlt : k < n
    case neg =>
      have g0 : decide ((k : Int) < (n : Int)) = false := decide_eq_false (by omega)
      have g0n : decide (k < n) = false := decide_eq_false (by omega)
      have e : Hid (rfind L job c = -1) := by
        rw [Hid]; unfold rfind
        have : L.findIdx? (rm job c) = none := by
          rw [List.findIdx?_eq_none_iff]
          intro x hx
          obtain ⟨i, hi, rfl⟩ := List.getElem_of_mem hx
          exact HAll.out i hi (by have := HN.out; omega)
        rw [this]
      clear hlt
      go_wp2
      go_ret
      rw [e.out]
      exact ⟨rfl, rfl⟩
    have g0 : decide ((k : Int) < (n : Int)) = true := decide_eq_true (by omega)
    have g0n : decide (k < n) = true := decide_eq_true (by omega)
    have hkl : k < L.length := by rw [HN.out]; exact hlt
    have i0 := fun wx => idxRP aL n cL (fun h => HAt.out.ok (by omega)) k hlt wx
    obtain ⟨y0, y1, y2, y3⟩ := HAt.out.rpAt hkl
    have hall2 : Hid (rm job c L[k] = false → ∀ i (h : i < L.length), i < k + 1 → rm job c L[i] = false) := by
      intro h i hi hik
      by_cases e : i = k
      · subst e; exact h
      · exact HAll.out i hi (by omega)
    have hfound : Hid (rm job c L[k] = true → rfind L job c = (k : Int)) := by
      intro h
      unfold rfind
      have : L.findIdx? (rm job c) = some k := by
        rw [List.findIdx?_eq_some_iff_getElem]
        exact ⟨hkl, h, fun j hj => by rw [HAll.out j (by omega) hj]; simp⟩
      rw [this]
    generalize L[k] = x at *
    generalize adr aL (k * 4) = A at *
    by_cases h1 : x.job = job
    · have k1 : (x.job == job) = true := by simpa using h1
      have H1 := hid h1
      clear h1
      by_cases h2 : x.cnt = c
      · have k2 : (x.cnt == c) = true := by simpa using h2
        have hr := hid (hfound.out (by unfold rm; rw [decide_eq_true H1.out, k2]; rfl))
        clear h2
        go_wp2
        go_ret
        rw [hr.out]
        exact ⟨rfl, rfl⟩
      · have k2 : (x.cnt == c) = false := by simpa using h2
        have hr := hid (hall2.out (by unfold rm; rw [k2]; simp))
        clear h2
        go_wp2
        go_round
        case rel => exact ⟨k + 1, by omega, by go_num, hr.out⟩
        case measure => simp [intOf]; omega
    · have k1 : (x.job == job) = false := by simpa using h1
      have hr := hid (hall2.out (by unfold rm; rw [decide_eq_false h1]; rfl))
      clear h1
      go_wp2
      go_round
      case rel => exact ⟨k + 1, by omega, by go_num, hr.out⟩
      case measure => simp [intOf]; omega
end

end Go.Proofs.Ytiilhfmmclhflaa
