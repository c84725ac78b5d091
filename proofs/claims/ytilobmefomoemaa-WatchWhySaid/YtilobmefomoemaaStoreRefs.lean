/- The document's store: Find, Epoch, without, Bytes, Get. The document's store: Epoch, without, Bytes, Get. The document's store as one thing: Bytes, Get, End, Fence, New. The document's store: End, Fence, New, Get. The document's store: Commit. The document's store: Stage. -/
import Derived.Test.YtilobmefomoemaaStoreLaws
import Derived.Test.YtilobmefomoemaaHeld
namespace Go.Proofs.Ytilobmefomoemaa
set_option linter.unusedVariables false
set_option linter.unusedSimpArgs false
open Go.RowKit
/-- A checkpoint of the document's store. -/
structure RP where
  job : Int
  ep : Int
  cnt : Bool
  d : BS
def RP.cs (x : RP) : List Value := [.int .i64 x.job, .int .i64 x.ep, .bool x.cnt, .slice x.d.a x.d.n x.d.c]
def eRP : Elt RP := { T := 98, E := 105, s := 4, byt := 48, z := .agg #[.int .i64 0, .int .i64 0, .bool false, .slice none 0 0], enc := RP.cs }
theorem eRPok : eRP.Ok := ⟨fun _ => rfl, fun x u hu => by
  simp only [eRP, RP.cs, List.mem_cons, List.not_mem_nil, or_false] at hu
  rcases hu with rfl | rfl | rfl | rfl <;> rfl, by decide, by kernel_rfl, by kernel_rfl, by rfl⟩
/-- Bytes that are never written. -/
def poolT (D : List BS) : Thing where
  lies := fun w B F => (∀ x ∈ D, BS.Hd x ∧ At w x.a x.l ∧ ∀ y, x.a = some y → F y.block) ∧ ∀ b, F b → B ≤ b ∧ b < w.heap.size
  touch := fun ⟨h1, h2⟩ ht _ hM => ⟨fun x hx => ⟨(h1 x hx).1, (h1 x hx).2.1.touch ht (fun y hy => hM _ ((h1 x hx).2.2 y hy)), (h1 x hx).2.2⟩, fun b hb => ⟨(h2 b hb).1, Nat.lt_of_lt_of_le (h2 b hb).2 ht.size⟩⟩
  low := fun h => h.2
theorem St.poolNil {w0 w : World} {tl : List Thing} (S : St w0 w tl) : St w0 w (poolT [] :: tl) :=
  (S.push (Below.refl _ _) (y := poolT []) (F := fun _ => False) ⟨fun x hx => by simp at hx, fun _ h => h.elim⟩ (fun _ h => h.elim)).rot
theorem St.poolAdd {w0 w : World} {tl : List Thing} {D : List BS} {a : Option Addr} {n c : Nat} {l : List UInt8} (S : St w0 w (poolT D :: bytesT (.slice a n c) l :: tl)) : St w0 w (poolT (⟨a, n, c, l⟩ :: D) :: tl) := by
  refine S.joinF.turn 0 rfl (y := poolT (⟨a, n, c, l⟩ :: D)) ?_
  rintro F ⟨G, H, ⟨h1, h2⟩, ⟨k1, k2⟩, hd, hF⟩
  obtain ⟨a', c', e', q1, q2, q3, q4, q5⟩ := OwnG.at eBok ((ownB _ _ _ _).2 k1)
  cases e'
  refine ⟨fun x hx => ?_, fun b hb => ?_⟩
  · rcases List.mem_cons.1 hx with rfl | hx
    · exact ⟨Own.hd k1, (atB _ _ _).1 q4, fun y hy => (hF _).2 (.inr ((k2 _).2 (q5 y hy)))⟩
    · obtain ⟨p1, p2, p3⟩ := h1 x hx
      exact ⟨p1, p2, fun y hy => (hF _).2 (.inl (p3 y hy))⟩
  · rcases (hF b).1 hb with hb | hb
    · exact h2 b hb
    · exact own_lt ((ownB _ _ _ _).2 k1) b ((k2 b).1 hb)
theorem St.poolAt {w0 w : World} {tl : List Thing} {D : List BS} (S : St w0 w tl) (k : Nat) (hk : tl[k]? = some (poolT D)) {x : BS} (hx : x ∈ D) : BS.Hd x ∧ At w x.a x.l := by
  obtain ⟨F, h1, _⟩ := S.head k hk
  exact ⟨(h1 x hx).1, (h1 x hx).2.1⟩
structure RS where
  room : Int
  term : Int
  L : List RP
  writes : Nat
def rstC (r : RS) (aL : Option Addr) (cL : Nat) : List Value := [.int .i64 r.room, .int .i64 r.term, .slice aL r.L.length cL, .int .i64 (r.writes : Int)]
def rstL (h : Nat) (aL : Option Addr) (cL : Nat) (r : RS) (tl : List Thing) : List Thing := cellsT h 100 (rstC r aL cL) :: ownT eRP (.slice aL r.L.length cL) r.L :: tl
def rm (job : Int) (c : Bool) (x : RP) : Bool := decide (x.job = job) && (x.cnt == c)
def rfind (L : List RP) (job : Int) (c : Bool) : Int := match L.findIdx? (rm job c) with | some k => (k : Int) | none => -1
def repoch (L : List RP) (job : Int) (c : Bool) : Int := match L.find? (rm job c) with | some x => x.ep | none => 0
def RPAt (w : World) (A : Addr) (x : RP) : Prop := w.cell? A = some (.int .i64 x.job) ∧ w.cell? { block := A.block, off := A.off + 1 } = some (.int .i64 x.ep) ∧ w.cell? { block := A.block, off := A.off + 2 } = some (.bool x.cnt) ∧ w.cell? { block := A.block, off := A.off + 3 } = some (.slice x.d.a x.d.n x.d.c)
theorem AtG.rpAt {w : World} {a : Option Addr} {l : List RP} (h : AtG eRP w a l) {k : Nat} (hk : k < l.length) : RPAt w (adr a (k * 4)) l[k] := by
  have hj : ∀ j, j < 4 → w.cell? ((adr a (k * 4)).add j) = (eRP.enc l[k])[j]? := by
    intro j hj
    have := (h k hk).2 j hj
    rw [show eRP.s = 4 from rfl, ← adr_two] at this
    exact this
  exact ⟨hj 0 (by decide), hj 1 (by decide), hj 2 (by decide), hj 3 (by decide)⟩
theorem idxRP (a : Option Addr) (n cap : Nat) (hn : 0 < n → a.isSome = true) (k : Nat) (hk : k < n) (wx : World) :
    (Instr.indexAt 98 (.slice a n cap) (.int .i64 (k : Int))).run Try.prog wx = .ok (.pointer (some (adr a (k * 4)))) wx := idxG eRPok a n cap hn k k rfl hk wx
section
variable {w0 w : World} {tl : List Thing} {h : Nat} {aL : Option Addr} {cL : Nat} {r : RS}
set_option maxRecDepth 10000 in
set_option maxHeartbeats 1600000 in
theorem rsFind_any (S : St w0 w (rstL h aL cL r tl)) (hm : r.L.length ≤ 1000000) (job : Int) (c : Bool) :
    Calls Try.prog 48 #[.pointer (some ⟨h, 0, none⟩), .int .i64 job, .bool c] w fun e w' => e = .returned (.int .i64 (rfind r.L job c)) ∧ w = w' := by
  have c0 := S.cell 0 rfl 2 rfl
  have hAt := (S.slG eRPok 1 rfl).2.2.2.2
  have HAt := hid hAt
  obtain ⟨L, hL⟩ : ∃ L, r.L = L := ⟨_, rfl⟩
  rw [hL] at hm HAt c0 ⊢
  obtain ⟨n, hn⟩ : ∃ n, L.length = n := ⟨_, rfl⟩
  rw [hn] at hm c0
  have HN := hid hn
  clear hn hL hAt S
  go_enter Try.func48, Try.ntmps48
  go_wp2_with fail
  go_loop [7] (fun q => ∃ k : Nat, k ≤ n ∧ q = .int .i64 k ∧ ∀ i (h : i < L.length), i < k → rm job c L[i] = false) (fun q => n - (intOf q).toNat)
  case atStart => exact ⟨0, Nat.zero_le _, rfl, fun i h hi => by omega⟩
  case round =>
    obtain ⟨k, hk, rfl, hall⟩ := hrel
    have HAll := hid hall
    clear hall
    by_cases hlt : k < n
    case neg =>
      have g0 : decide ((k : Int) < (n : Int)) = false := decide_eq_false (by omega)
      have g0n : decide (k < n) = false := decide_eq_false (by omega)
      have e : Hid (rfind L job c = -1) := by
        rw [Hid]; unfold rfind
        have : L.findIdx? (rm job c) = none := by
          rw [List.findIdx?_eq_none_iff]
          intro x hx
          obtain ⟨i, hi, rfl⟩ := List.getElem_of_mem hx
          exact HAll.out i hi (by have := HN.out; omega)
        rw [this]
      clear hlt
      go_wp2
      go_ret
      rw [e.out]
      exact ⟨rfl, rfl⟩
    have g0 : decide ((k : Int) < (n : Int)) = true := decide_eq_true (by omega)
    have g0n : decide (k < n) = true := decide_eq_true (by omega)
    have hkl : k < L.length := by rw [HN.out]; exact hlt
    have i0 := fun wx => idxRP aL n cL (fun h => HAt.out.ok (by omega)) k hlt wx
    obtain ⟨y0, y1, y2, y3⟩ := HAt.out.rpAt hkl
    have hall2 : Hid (rm job c L[k] = false → ∀ i (h : i < L.length), i < k + 1 → rm job c L[i] = false) := by
      intro h i hi hik
      by_cases e : i = k
      · subst e; exact h
      · exact HAll.out i hi (by omega)
    have hfound : Hid (rm job c L[k] = true → rfind L job c = (k : Int)) := by
      intro h
      unfold rfind
      have : L.findIdx? (rm job c) = some k := by
        rw [List.findIdx?_eq_some_iff_getElem]
        exact ⟨hkl, h, fun j hj => by rw [HAll.out j (by omega) hj]; simp⟩
      rw [this]
    generalize L[k] = x at *
    generalize adr aL (k * 4) = A at *
    by_cases h1 : x.job = job
    · have k1 : (x.job == job) = true := by simpa using h1
      have H1 := hid h1
      clear h1
      by_cases h2 : x.cnt = c
      · have k2 : (x.cnt == c) = true := by simpa using h2
        have hr := hid (hfound.out (by unfold rm; rw [decide_eq_true H1.out, k2]; rfl))
        clear h2
        go_wp2
        go_ret
        rw [hr.out]
        exact ⟨rfl, rfl⟩
      · have k2 : (x.cnt == c) = false := by simpa using h2
        have hr := hid (hall2.out (by unfold rm; rw [k2]; simp))
        clear h2
        go_wp2
        go_round
        case rel => exact ⟨k + 1, by omega, by go_num, hr.out⟩
        case measure => simp [intOf]; omega
    · have k1 : (x.job == job) = false := by simpa using h1
      have hr := hid (hall2.out (by unfold rm; rw [decide_eq_false h1]; rfl))
      clear h1
      go_wp2
      go_round
      case rel => exact ⟨k + 1, by omega, by go_num, hr.out⟩
      case measure => simp [intOf]; omega
end

end Go.Proofs.Ytilobmefomoemaa

namespace Go.Proofs.Ytilobmefomoemaa
set_option linter.unusedVariables false
set_option linter.unusedSimpArgs false
open Go.RowKit
section
variable {w0 w : World} {tl : List Thing} {h : Nat} {aL : Option Addr} {cL : Nat} {r : RS}
theorem rfind_cases (L : List RP) (job : Int) (c : Bool) : (rfind L job c = -1 ∧ ∀ x ∈ L, rm job c x = false) ∨ ∃ (k : Nat) (hk : k < L.length), rfind L job c = (k : Int) ∧ rm job c L[k] = true ∧ ∀ j (hj : j < k), rm job c L[j] = false := by
  unfold rfind
  rcases hq : L.findIdx? (rm job c) with _ | k
  · left; exact ⟨rfl, List.findIdx?_eq_none_iff.1 hq⟩
  · right
    obtain ⟨hk, h1, h2⟩ := List.findIdx?_eq_some_iff_getElem.1 hq
    exact ⟨k, hk, rfl, h1, fun j hj => by simpa using h2 j hj⟩
theorem find_of {L : List RP} {p : RP → Bool} {k : Nat} (hk : k < L.length) (h1 : p L[k] = true) (h2 : ∀ j (hj : j < k), p L[j] = false) : L.find? p = some L[k] := by
  rw [List.find?_eq_some_iff_getElem]
  exact ⟨h1, k, hk, rfl, fun j hj => by rw [h2 j hj]; rfl⟩
theorem find_no {L : List RP} {p : RP → Bool} (h : ∀ x ∈ L, p x = false) : L.find? p = none := by
  rw [List.find?_eq_none]; intro x hx; rw [h x hx]; simp
set_option maxRecDepth 10000 in
theorem rsEpoch_any (S : St w0 w (rstL h aL cL r tl)) (hm : r.L.length ≤ 1000000) (job : Int) (c : Bool) :
    Calls Try.prog 47 #[.pointer (some ⟨h, 0, none⟩), .int .i64 job, .bool c] w fun e w' => e = .returned (.int .i64 (repoch r.L job c)) ∧ w = w' := by
  rcases rfind_cases r.L job c with ⟨h1, h2⟩ | ⟨k, hk, h1, h2, h3⟩
  · have e : Hid (repoch r.L job c = 0) := by rw [Hid]; unfold repoch; rw [find_no h2]
    have H1 := hid h1
    clear h1 h2
    go_enter Try.func47, Try.ntmps47
    go_wp2_with fail
    refine (rsFind_any S hm job c).mono ?_
    rintro e' w1 ⟨rfl, rfl⟩
    rw [H1.out]
    go_wp2
    go_ret
    rw [e.out]
    exact ⟨rfl, rfl⟩
  · have e : Hid (repoch r.L job c = r.L[k].ep) := by rw [Hid]; unfold repoch; rw [find_of hk h2 h3]
    have H1 := hid h1
    have c0 := S.cell 0 rfl 2 rfl
    have hAt := (S.slG eRPok 1 rfl).2.2.2.2
    have i0 := fun wx => idxRP aL r.L.length cL (fun h => hAt.ok (by omega)) k hk wx
    obtain ⟨y0, y1, y2, y3⟩ := hAt.rpAt hk
    have g0 : decide ((k : Int) < 0) = false := decide_eq_false (by omega)
    generalize adr aL (k * 4) = A at *
    clear h1 h2 h3 hAt
    rw [e.out]
    go_enter Try.func47, Try.ntmps47
    go_wp2_with fail
    refine (rsFind_any S hm job c).mono ?_
    rintro e' w1 ⟨rfl, rfl⟩
    rw [H1.out]
    go_wp2
    go_ret
    exact ⟨rfl, rfl⟩
def rwith (L : List RP) (job : Int) (c : Bool) : List RP := L.filter fun x => !rm job c x
theorem rwith_step {L : List RP} {k : Nat} (hk : k < L.length) (job : Int) (c : Bool) : rwith (L.take (k + 1)) job c = rwith (L.take k) job c ++ if rm job c L[k] = true then [] else [L[k]] := by
  unfold rwith
  rw [List.take_succ_eq_append_getElem hk, List.filter_append]
  congr 1
  cases h : rm job c L[k] <;> simp [h]
set_option maxRecDepth 10000 in
set_option maxHeartbeats 1600000 in
theorem rsWithout_any (S : St w0 w (rstL h aL cL r tl)) (hm : r.L.length ≤ 1000000) (job : Int) (c : Bool) :
    Calls Try.prog 53 #[.pointer (some ⟨h, 0, none⟩), .int .i64 job, .bool c] w fun e w' => ∃ a c', e = .returned (.slice a (rwith r.L job c).length c') ∧ St w0 w' (ownT eRP (.slice a (rwith r.L job c).length c') (rwith r.L job c) :: rstL h aL cL r tl) := by
  have S0 := (S.nilG eRP).rot
  obtain ⟨n, hn⟩ : ∃ n, r.L.length = n := ⟨_, rfl⟩
  have HN := hid hn
  have HC : Hid (∀ w' v l, St w0 w' (ownT eRP v l :: rstL h aL cL r tl) → w'.cell? ⟨h, 2, none⟩ = some (.slice aL n cL)) := by
    intro w' v l S'
    rw [← hn]; exact S'.cell 1 rfl 2 rfl
  rw [hn] at hm
  clear hn S
  go_enter Try.func53, Try.ntmps53
  go_wp2_with fail
  go_loopw [7, 8] (fun v q wr => ∃ (k N : Nat) (a1 : Option Addr) (c1 : Nat), k ≤ n ∧ v = .slice a1 N c1 ∧ q = .int .i64 k ∧ St w0 wr (ownT eRP (.slice a1 N c1) (rwith (r.L.take k) job c) :: rstL h aL cL r tl)) (fun _ q _ => n - (intOf q).toNat)
  case atStart => exact ⟨0, 0, none, 0, Nat.zero_le _, rfl, rfl, S0⟩
  case round =>
    obtain ⟨k, N, a1, c1, hk, rfl, rfl, Sk⟩ := hrel
    clear S0
    have HN1 := hid (Sk.slG eRPok 0 rfl).1
    have hNk : N ≤ k := by
      have h1 := HN1.out
      have h2 : (rwith (r.L.take k) job c).length ≤ (r.L.take k).length := List.length_filter_le _ _
      rw [List.length_take] at h2; omega
    have c0 := HC.out _ _ _ Sk
    by_cases hlt : k < n
    case neg =>
      have g0 : decide ((k : Int) < (n : Int)) = false := decide_eq_false (by omega)
      have g0n : decide (k < n) = false := decide_eq_false (by omega)
      have e : Hid (r.L.take k = r.L) := by rw [Hid]; exact List.take_of_length_le (by have := HN.out; omega)
      have e2 : Hid (N = (rwith r.L job c).length) := by rw [Hid, ← HN1.out, e.out]
      clear hlt hk
      go_wp2
      go_ret
      refine ⟨a1, c1, ?_, ?_⟩
      · rw [← e2.out]; rfl
      · have := Sk; rw [e.out] at this; rw [← e2.out]; exact this
    have g0 : decide ((k : Int) < (n : Int)) = true := decide_eq_true (by omega)
    have g0n : decide (k < n) = true := decide_eq_true (by omega)
    have hkl : k < r.L.length := by rw [HN.out]; exact hlt
    have hAt := (Sk.slG eRPok 2 rfl).2.2.2.2
    have i0 := fun wx => idxRP aL n cL (fun h => hAt.ok (by omega)) k hlt wx
    obtain ⟨y0, y1, y2, y3⟩ := hAt.rpAt hkl
    have HSt := hid (rwith_step hkl job c)
    generalize r.L[k] = x at *
    generalize adr aL (k * 4) = A at *
    clear hAt
    by_cases hrm : rm job c x = true
    · have k1 : (x.job != job) = false := by unfold rm at hrm; rw [Bool.and_eq_true, decide_eq_true_iff] at hrm; simp [hrm.1]
      have k2 : (x.cnt != c) = false := by unfold rm at hrm; rw [Bool.and_eq_true, beq_iff_eq] at hrm; simp [hrm.2]
      have k3 : (x.cnt == c) = true := by unfold rm at hrm; rw [Bool.and_eq_true] at hrm; exact hrm.2
      have k4 : decide (x.cnt = c) = true := by simpa using k3
      have HS2 : Hid (rwith (r.L.take (k + 1)) job c = rwith (r.L.take k) job c) := by rw [Hid, HSt.out, if_pos hrm]; simp
      clear hrm
      go_wp2
      go_roundw
      case rel => exact ⟨k + 1, N, a1, c1, by omega, rfl, by go_num, by rw [HS2.out]; exact Sk⟩
      case measure => simp [intOf]; omega
    · have HS2 : Hid (rwith (r.L.take (k + 1)) job c = rwith (r.L.take k) job c ++ [x]) := by rw [Hid, HSt.out, if_neg hrm]
      obtain ⟨N1, hN1⟩ : ∃ N1, N + 1 = N1 := ⟨_, rfl⟩
      have HNN := hid hN1
      by_cases k1 : x.job = job
      · have q1 : (x.job != job) = false := by simpa using k1
        have q2 : (x.cnt != c) = true := by
          unfold rm at hrm
          rw [decide_eq_true k1] at hrm
          simpa using hrm
        have q3 : (x.cnt == c) = false := by simpa using q2
        have q4 : decide (x.cnt = c) = false := by simpa using q2
        clear hrm k1
        go_wp2_with (at_builtin; refine wpList_app (by rfl) (.tmp 40) (.tmp 48) eRP.T eRP.T eRP.T rfl rfl _ _ rfl rfl (Sk.appG1 eRPok wr.heap.size rfl 0 rfl x _ (by rfl) N1 (by rw [HN1.out]; exact HNN.out) (by show _ * 48 ≤ _; omega) (by unfold maxLen; omega)) ?_; rintro v3 w3 ⟨⟨a3, c3, rfl⟩, S3⟩)
        go_roundw
        case rel => exact ⟨k + 1, N1, a3, c3, by omega, rfl, by go_num, by rw [HS2.out]; exact S3⟩
        case measure => simp [intOf]; omega
      · have q1 : (x.job != job) = true := by simpa using k1
        clear hrm k1
        go_wp2_with (at_builtin; refine wpList_app (by rfl) (.tmp 40) (.tmp 48) eRP.T eRP.T eRP.T rfl rfl _ _ rfl rfl (Sk.appG1 eRPok wr.heap.size rfl 0 rfl x _ (by rfl) N1 (by rw [HN1.out]; exact HNN.out) (by show _ * 48 ≤ _; omega) (by unfold maxLen; omega)) ?_; rintro v3 w3 ⟨⟨a3, c3, rfl⟩, S3⟩)
        go_roundw
        case rel => exact ⟨k + 1, N1, a3, c3, by omega, rfl, by go_num, by rw [HS2.out]; exact S3⟩
        case measure => simp [intOf]; omega
end

end Go.Proofs.Ytilobmefomoemaa

namespace Go.Proofs.Ytilobmefomoemaa
set_option linter.unusedVariables false
set_option linter.unusedSimpArgs false
open Go.RowKit
/-- A checkpoint, wherever its bytes lie. -/
structure PT where
  job : Int
  ep : Int
  cnt : Bool
  l : List UInt8
def RP.pt (x : RP) : PT := ⟨x.job, x.ep, x.cnt, x.d.l⟩
structure QS where
  room : Int
  term : Int
  L : List PT
  writes : Nat
def pm (job : Int) (c : Bool) (x : PT) : Bool := decide (x.job = job) && (x.cnt == c)
def pwith (L : List PT) (job : Int) (c : Bool) : List PT := L.filter fun x => !pm job c x
def pepoch (L : List PT) (job : Int) (c : Bool) : Int := match L.find? (pm job c) with | some x => x.ep | none => 0
def pbytes (L : List PT) : Nat := (L.map fun x => x.l.length).sum
def qStage (q : QS) (term job ep : Int) (b : List UInt8) : Int × QS :=
  if term < q.term then (6, q)
  else if job < 1 ∨ 24 < job ∨ ep < 1 ∨ 1000000 < ep ∨ b.length < 1 ∨ 100 < b.length then (1, q)
  else if ep ≤ pepoch q.L job true ∨ ep < pepoch q.L job false then (6, q)
  else if ep = pepoch q.L job false then (0, q)
  else if q.room < (pbytes (pwith q.L job false) : Int) + b.length then (3, q)
  else (0, { q with L := pwith q.L job false ++ [⟨job, ep, false, b⟩], writes := q.writes + 1 })
def qEnd (q : QS) (job : Int) : QS := { q with L := pwith (pwith q.L job true) job false }
def qCommit (q : QS) (job ep : Int) : Int × QS :=
  if 0 < ep ∧ pepoch q.L job true = ep then (0, q)
  else match q.L.find? (pm job false) with
    | none => (4, q)
    | some x => if x.ep ≠ ep then (4, q) else (0, { qEnd q job with L := (qEnd q job).L ++ [{ x with cnt := true }] })
def qGet (q : QS) (job ep : Int) : Option (List UInt8) := (q.L.find? fun x => decide (x.job = job) && decide (x.ep = ep)).map PT.l
def qFence (q : QS) (term : Int) : QS := { q with term := max q.term term }
def RS.q (r : RS) : QS := ⟨r.room, r.term, r.L.map RP.pt, r.writes⟩
theorem rm_pt (job : Int) (c : Bool) (x : RP) : pm job c x.pt = rm job c x := rfl
theorem rwith_pt (L : List RP) (job : Int) (c : Bool) : (rwith L job c).map RP.pt = pwith (L.map RP.pt) job c := by
  unfold rwith pwith
  rw [List.filter_map]; rfl
theorem repoch_pt (L : List RP) (job : Int) (c : Bool) : repoch L job c = pepoch (L.map RP.pt) job c := by
  unfold repoch pepoch
  rw [List.find?_map]
  have : (pm job c ∘ RP.pt) = rm job c := rfl
  rw [this]
  cases L.find? (rm job c) <;> rfl
/-- Things as one. -/
def allS : List Thing → Thing
  | [] => { lies := fun w B F => ∀ b, ¬ F b, touch := fun h _ _ _ => h, low := fun h b hb => (h b hb).elim }
  | x :: l => sepT x (allS l)
theorem St.allSI {w0 w : World} : ∀ (l tl : List Thing), St w0 w (l ++ tl) → St w0 w (allS l :: tl)
  | [], tl, S => (S.push (Below.refl _ _) (y := allS []) (F := fun _ => False) (fun b h => h) (fun _ h => h.elim)).rot
  | x :: l, tl, S => by
    have h1 : St w0 w (l ++ (tl ++ [x])) := St.conv (St.unrot (y := x) (l := l ++ tl) S) (by simp)
    have h2 := St.allSI l (tl ++ [x]) h1
    exact (St.rot (l := allS l :: tl) h2).joinF
theorem St.allSF {w0 w : World} : ∀ (l tl : List Thing), St w0 w (allS l :: tl) → St w0 w (l ++ tl)
  | [], tl, S => S.tail
  | x :: l, tl, S => by
    have h1 : St w0 w (x :: allS l :: tl) := S.splitF
    have h2 : St w0 w (allS l :: (tl ++ [x])) := St.unrot (y := x) (l := allS l :: tl) h1
    have h3 := St.allSF l (tl ++ [x]) h2
    exact (St.rot (l := l ++ tl) (St.conv h3 (by simp)))
/-- What of a document's store may be told. -/
structure ROk (r : RS) (D : List BS) (q : QS) : Prop where
  q : r.q = q
  mem : ∀ x ∈ r.L, x.d ∈ D
  small : ∀ x ∈ r.L, x.d.n ≤ 100
def rstT (h : Nat) (q : QS) : Thing := exT fun (y : RS × Option Addr × Nat × List BS) => andT (ROk y.1 y.2.2.2 q) (allS (rstL h y.2.1 y.2.2.1 y.1 [poolT y.2.2.2]))
section
variable {w0 w : World} {tl r : List Thing} {h : Nat} {q : QS}
theorem St.rstO (S : St w0 w (rstT h q :: tl)) : ∃ r aL cL D, ROk r D q ∧ St w0 w (rstL h aL cL r (poolT D :: tl)) := by
  obtain ⟨⟨r, aL, cL, D⟩, S⟩ := S.exF
  obtain ⟨h, S⟩ := S.andF
  exact ⟨r, aL, cL, D, h, St.allSF _ _ S⟩
theorem St.rstI {r : RS} {aL : Option Addr} {cL : Nat} {D : List BS} (h1 : ROk r D q) (S : St w0 w (rstL h aL cL r (poolT D :: tl))) : St w0 w (rstT h q :: tl) :=
  St.exI (r, aL, cL, D) (St.andI h1 (St.allSI (rstL h aL cL r [poolT D]) tl S))
theorem St.putS {l : List Thing} {k : Nat} {x y : Thing} (h : l[k]? = some x) (S : St w0 w (y :: l.eraseIdx k)) : St w0 w (l.set k y) := S.back (List.getElem?_eq_some_iff.1 h).1
def rsum (L : List RP) (k : Nat) : Nat := ((L.take k).map fun x => x.d.n).sum
theorem rsum_step {L : List RP} {k : Nat} (hk : k < L.length) : rsum L (k + 1) = rsum L k + L[k].d.n := by
  unfold rsum
  rw [List.take_succ_eq_append_getElem hk, List.map_append, List.sum_append]; simp
theorem rsum_le {L : List RP} (h : ∀ x ∈ L, x.d.n ≤ 100) : ∀ k, k ≤ L.length → rsum L k ≤ 100 * k
  | 0, _ => by simp [rsum]
  | k + 1, hk => by
    have h1 := rsum_le h k (by omega)
    have h2 := h _ (List.getElem_mem (show k < L.length by omega))
    rw [rsum_step (by omega)]; omega
set_option maxRecDepth 10000 in
theorem rsBytes_any (a : Option Addr) (L : List RP) (n cap : Nat) (w : World) (hn : L.length = n) (hm : n ≤ 100000) (hA : AtG eRP w a L) (hs : ∀ x ∈ L, x.d.n ≤ 100) :
    Calls Try.prog 54 #[.slice a n cap] w fun e w' => e = .returned (.int .i64 (rsum L n : Int)) ∧ w = w' := by
  have HN := hid hn
  have HA := hid hA
  have HSm := hid hs
  clear hn hA hs
  go_enter Try.func54, Try.ntmps54
  go_wp2_with fail
  go_loop [3, 4] (fun s q => ∃ k : Nat, k ≤ n ∧ q = .int .i64 k ∧ s = .int .i64 (rsum L k : Int)) (fun _ q => n - (intOf q).toNat)
  case atStart => exact ⟨0, Nat.zero_le _, rfl, by simp [rsum]⟩
  case round =>
    obtain ⟨k, hk, rfl, rfl⟩ := hrel
    by_cases hlt : k < n
    case neg =>
      have g0 : decide ((k : Int) < (n : Int)) = false := decide_eq_false (by omega)
      have g0n : decide (k < n) = false := decide_eq_false (by omega)
      have e : k = n := by omega
      subst e
      clear hlt
      go_wp2
      go_ret
      exact ⟨rfl, rfl⟩
    have g0 : decide ((k : Int) < (n : Int)) = true := decide_eq_true (by omega)
    have g0n : decide (k < n) = true := decide_eq_true (by omega)
    have hkl : k < L.length := by rw [HN.out]; exact hlt
    have i0 := fun wx => idxRP a n cap (fun h => HA.out.ok (by omega)) k hlt wx
    obtain ⟨y0, y1, y2, y3⟩ := HA.out.rpAt hkl
    have hst := rsum_step hkl
    have hle := rsum_le HSm.out k (by omega)
    have hx := HSm.out _ (List.getElem_mem hkl)
    generalize L[k] = x at *
    generalize adr a (k * 4) = A at *
    obtain ⟨U, hU⟩ : ∃ U, rsum L k = U := ⟨_, rfl⟩
    rw [hU] at hst hle ⊢
    have HST := hid hst
    clear hst hU
    go_wp2
    go_round
    case rel => exact ⟨k + 1, by omega, by go_num, by rw [HST.out]; go_num⟩
    case measure => simp [intOf]; omega
end

end Go.Proofs.Ytilobmefomoemaa

namespace Go.Proofs.Ytilobmefomoemaa
set_option linter.unusedVariables false
set_option linter.unusedSimpArgs false
open Go.RowKit
section
variable {w0 w : World} {tl r0 : List Thing} {h : Nat} {aL : Option Addr} {cL : Nat} {r : RS}
def rEnd (r : RS) (job : Int) : RS := { r with L := rwith (rwith r.L job true) job false }
theorem rwith_len (L : List RP) (job : Int) (c : Bool) : (rwith L job c).length ≤ L.length := List.length_filter_le _ _
theorem St.setL {x : Thing} {L2 : List RP} {a1 : Option Addr} {c1 : Nat} (S : St w0 w (ownT eRP (.slice a1 L2.length c1) L2 :: rstL h aL cL r tl)) :
    St w0 (w.setCell ⟨h, 2, none⟩ (.slice a1 L2.length c1)) (rstL h a1 c1 { r with L := L2 } tl) :=
  (((S.setCell 1 rfl 2 (.slice a1 L2.length c1)).front 2 rfl).tail).front 1 rfl
set_option maxRecDepth 10000 in
theorem rsEnd_any (S : St w0 w (rstL h aL cL r tl)) (hm : r.L.length ≤ 1000000) (job : Int) :
    Calls Try.prog 49 #[.pointer (some ⟨h, 0, none⟩), .int .i64 job] w fun e w' => ∃ a c, e = .returned (.tuple #[]) ∧ St w0 w' (rstL h a c (rEnd r job) tl) := by
  go_enter Try.func49, Try.ntmps49
  go_wp2_with fail
  refine (rsWithout_any S hm job true).mono ?_
  rintro e w1 ⟨a1, c1, rfl, S1⟩
  have f1 := S1.frozen 1 rfl 2
  have d1 := S1.cell 1 rfl 2 rfl
  have S2 := S1.setL (x := poolT [])
  clear S
  go_wp2_with fail
  clear f1 d1 S1
  generalize w1.setCell _ _ = w2 at *
  refine (rsWithout_any S2 (by show (rwith r.L job true).length ≤ _; have := rwith_len r.L job true; omega) job false).mono ?_
  rintro e w3 ⟨a3, c3, rfl, S3⟩
  have f3 := S3.frozen 1 rfl 2
  have d3 := S3.cell 1 rfl 2 rfl
  have S4 := S3.setL (x := poolT [])
  clear S2
  go_wp2
  go_end0
  exact ⟨a3, c3, rfl, S4⟩
def RS.new (room : Int) : RS := ⟨max 0 room, 0, [], 0⟩
set_option maxRecDepth 10000 in
theorem rsNew_any (S : St w0 w tl) (room : Int) :
    Calls Try.prog 24 #[.int .i64 room] w fun e w' => e = .returned (.pointer (some ⟨w.heap.size, 0, none⟩)) ∧ St w0 w' (rstL w.heap.size none 0 (RS.new room) tl) := by
  have HK : Hid (∀ M : Int, max 0 room = M → St w0 (w.alloc (.cells #[.int .i64 M, .int .i64 0, .slice none 0 0, .int .i64 0] 100)) (rstL w.heap.size none 0 (RS.new room) tl)) := by
    intro M hM
    have h1 := S.newCells 100 #[.int .i64 M, .int .i64 0, .slice none 0 0, .int .i64 0]
    have h2 := (h1.rot.nilG eRP).rot
    have h3 := h2.front 1 rfl
    rw [← hM] at h3 ⊢
    exact h3
  by_cases hr : 0 ≤ room
  · have S2 := hid (HK.out room (by omega))
    clear HK
    go_enter Try.func24, Try.ntmps24
    go_wp2
    all_goals (
      go_ret
      refine ⟨rfl, ?_⟩
      first | exact S2.out | (have e0 : room = 0 := by omega
                              have := S2.out
                              rw [e0] at this ⊢
                              exact this))
  · have S2 := hid (HK.out 0 (by omega))
    clear HK
    go_enter Try.func24, Try.ntmps24
    go_wp2
    all_goals (first | (exfalso; omega) | (go_ret; exact ⟨rfl, S2.out⟩))
def rgm (job ep : Int) (x : RP) : Bool := decide (x.job = job) && decide (x.ep = ep)
def rGetV (L : List RP) (job ep : Int) : Value := match L.find? (rgm job ep) with
  | none => .tuple #[.slice none 0 0, .bool false]
  | some x => .tuple #[.slice x.d.a x.d.n x.d.c, .bool true]
set_option maxRecDepth 10000 in
set_option maxHeartbeats 1600000 in
theorem rsGet_any (S : St w0 w (rstL h aL cL r tl)) (hm : r.L.length ≤ 1000000) (job ep : Int) :
    Calls Try.prog 43 #[.pointer (some ⟨h, 0, none⟩), .int .i64 job, .int .i64 ep] w fun e w' => e = .returned (rGetV r.L job ep) ∧ w = w' := by
  have c0 := S.cell 0 rfl 2 rfl
  have hAt := (S.slG eRPok 1 rfl).2.2.2.2
  have HAt := hid hAt
  obtain ⟨L, hL⟩ : ∃ L, r.L = L := ⟨_, rfl⟩
  rw [hL] at hm HAt c0 ⊢
  obtain ⟨n, hn⟩ : ∃ n, L.length = n := ⟨_, rfl⟩
  rw [hn] at hm c0
  have HN := hid hn
  clear hn hL hAt S
  go_enter Try.func43, Try.ntmps43
  go_wp2_with fail
  go_loop [8] (fun q => ∃ k : Nat, k ≤ n ∧ q = .int .i64 k ∧ ∀ i (h : i < L.length), i < k → rgm job ep L[i] = false) (fun q => n - (intOf q).toNat)
  case atStart => exact ⟨0, Nat.zero_le _, rfl, fun i h hi => by omega⟩
  case round =>
    obtain ⟨k, hk, rfl, hall⟩ := hrel
    have HAll := hid hall
    clear hall
    by_cases hlt : k < n
    case neg =>
      have g0 : decide ((k : Int) < (n : Int)) = false := decide_eq_false (by omega)
      have g0n : decide (k < n) = false := decide_eq_false (by omega)
      have e : Hid (rGetV L job ep = .tuple #[.slice none 0 0, .bool false]) := by
        rw [Hid]; unfold rGetV
        have : L.find? (rgm job ep) = none := find_no (p := rgm job ep) fun x hx => by
          obtain ⟨i, hi, rfl⟩ := List.getElem_of_mem hx
          exact HAll.out i hi (by have := HN.out; omega)
        rw [this]
      clear hlt
      go_wp2
      go_ret2
      rw [e.out]
      exact ⟨rfl, rfl⟩
    have g0 : decide ((k : Int) < (n : Int)) = true := decide_eq_true (by omega)
    have g0n : decide (k < n) = true := decide_eq_true (by omega)
    have hkl : k < L.length := by rw [HN.out]; exact hlt
    have i0 := fun wx => idxRP aL n cL (fun h => HAt.out.ok (by omega)) k hlt wx
    obtain ⟨y0, y1, y2, y3⟩ := HAt.out.rpAt hkl
    have hall2 : Hid (rgm job ep L[k] = false → ∀ i (h : i < L.length), i < k + 1 → rgm job ep L[i] = false) := by
      intro h i hi hik
      by_cases e : i = k
      · subst e; exact h
      · exact HAll.out i hi (by omega)
    have hfound : Hid (rgm job ep L[k] = true → rGetV L job ep = .tuple #[.slice L[k].d.a L[k].d.n L[k].d.c, .bool true]) := by
      intro h
      unfold rGetV
      rw [find_of hkl h (fun j hj => HAll.out j (by omega) hj)]
    generalize L[k] = x at *
    generalize adr aL (k * 4) = A at *
    by_cases h1 : x.job = job
    · have k1 : (x.job == job) = true := by simpa using h1
      have H1 := hid h1
      clear h1
      by_cases h2 : x.ep = ep
      · have k2 : (x.ep == ep) = true := by simpa using h2
        have hr := hid (hfound.out (by unfold rgm; rw [decide_eq_true H1.out, decide_eq_true h2]; rfl))
        clear h2
        go_wp2
        go_ret2
        rw [hr.out]
        exact ⟨rfl, rfl⟩
      · have k2 : (x.ep == ep) = false := by simpa using h2
        have hr := hid (hall2.out (by unfold rgm; rw [decide_eq_false h2]; simp))
        clear h2
        go_wp2
        go_round
        case rel => exact ⟨k + 1, by omega, by go_num, hr.out⟩
        case measure => simp [intOf]; omega
    · have k1 : (x.job == job) = false := by simpa using h1
      have hr := hid (hall2.out (by unfold rgm; rw [decide_eq_false h1]; rfl))
      clear h1
      go_wp2
      go_round
      case rel => exact ⟨k + 1, by omega, by go_num, hr.out⟩
      case measure => simp [intOf]; omega
end

end Go.Proofs.Ytilobmefomoemaa

namespace Go.Proofs.Ytilobmefomoemaa
set_option linter.unusedVariables false
set_option linter.unusedSimpArgs false
open Go.RowKit
section
variable {w0 w : World} {tl r0 : List Thing} {h : Nat} {aL : Option Addr} {cL : Nat} {r : RS}
def rCommit (r : RS) (job ep : Int) : Int × RS :=
  if 0 < ep ∧ repoch r.L job true = ep then (0, r)
  else match r.L.find? (rm job false) with
    | none => (4, r)
    | some x => if x.ep ≠ ep then (4, r) else (0, { rEnd r job with L := (rEnd r job).L ++ [{ x with cnt := true }] })
def RIPost (w0 : World) (h : Nat) (tl : List Thing) (q : Int × RS) (e : Ending) (w' : World) : Prop := ∃ a c, e = .returned (.int .i64 q.1) ∧ St w0 w' (rstL h a c q.2 tl)
theorem rEnd_len (r : RS) (job : Int) : (rEnd r job).L.length ≤ r.L.length := Nat.le_trans (rwith_len _ _ _) (rwith_len _ _ _)
set_option maxRecDepth 10000 in
set_option maxHeartbeats 3200000 in
theorem rsCommit_any (S : St w0 w (rstL h aL cL r tl)) (hm : r.L.length ≤ 100000) (job ep : Int) :
    Calls Try.prog 26 #[.pointer (some ⟨h, 0, none⟩), .int .i64 job, .int .i64 ep] w (RIPost w0 h tl (rCommit r job ep)) := by
  have hm2 : r.L.length ≤ 1000000 := by omega
  obtain ⟨E1, hE1⟩ : ∃ E1, repoch r.L job true = E1 := ⟨_, rfl⟩
  have HE1 := hid hE1
  by_cases hA : 0 < ep ∧ E1 = ep
  · have HR : Hid (rCommit r job ep = (0, r)) := by rw [Hid, rCommit, if_pos (by rw [hE1]; exact hA)]
    have g0 : decide (0 < ep) = true := decide_eq_true hA.1
    have g1 : (E1 == ep) = true := by simpa using hA.2
    clear hA hE1
    go_enter Try.func26, Try.ntmps26
    go_wp2_with fail
    refine (rsEpoch_any S hm2 job true).mono ?_
    rintro e w1 ⟨rfl, rfl⟩
    rw [HE1.out]
    go_wp2
    go_ret
    rw [HR.out]
    exact ⟨aL, cL, rfl, S⟩
  have HR : Hid (rCommit r job ep = match r.L.find? (rm job false) with
    | none => (4, r)
    | some x => if x.ep ≠ ep then (4, r) else (0, { rEnd r job with L := (rEnd r job).L ++ [{ x with cnt := true }] })) := by rw [Hid, rCommit, if_neg (by rw [hE1]; exact hA)]
  have HG : Hid (0 < ep → (E1 == ep) = false) := fun h => by simpa using fun h2 => hA ⟨h, h2⟩
  clear hA hE1
  rcases rfind_cases r.L job false with ⟨h1, h2⟩ | ⟨k, hk, h1, h2, h3⟩
  · have HR2 : Hid (rCommit r job ep = (4, r)) := by rw [Hid, HR.out, find_no h2]
    have HF := hid h1
    clear h1 h2 HR
    rcases Decidable.em (0 < ep) with hep | hep
    · have g0 : decide (0 < ep) = true := decide_eq_true hep
      have g1 := HG.out hep
      clear hep
      go_enter Try.func26, Try.ntmps26
      go_wp2_with fail
      refine (rsEpoch_any S hm2 job true).mono ?_
      rintro e w1 ⟨rfl, rfl⟩
      rw [HE1.out]
      go_wp2_with fail
      refine (rsFind_any S hm2 job false).mono ?_
      rintro e w1 ⟨rfl, rfl⟩
      rw [HF.out]
      go_wp2
      go_ret
      rw [HR2.out]
      exact ⟨aL, cL, rfl, S⟩
    · have g0 : decide (0 < ep) = false := decide_eq_false hep
      clear hep
      go_enter Try.func26, Try.ntmps26
      go_wp2_with fail
      refine (rsFind_any S hm2 job false).mono ?_
      rintro e w1 ⟨rfl, rfl⟩
      rw [HF.out]
      go_wp2
      go_ret
      rw [HR2.out]
      exact ⟨aL, cL, rfl, S⟩
  have HF := hid h1
  have c0 := S.cell 0 rfl 2 rfl
  have hAt := (S.slG eRPok 1 rfl).2.2.2.2
  have i0 := fun wx => idxRP aL r.L.length cL (fun h => hAt.ok (by omega)) k hk wx
  obtain ⟨y0, y1, y2, y3⟩ := hAt.rpAt hk
  have gk : decide ((k : Int) < 0) = false := decide_eq_false (by omega)
  have HR3 := hid HR.out
  rw [find_of hk h2 h3] at HR3
  clear h1 h2 h3 hAt HR
  generalize r.L[k] = x at *
  generalize adr aL (k * 4) = A at *
  have gki : ((k : Int) < 0) = False := by simp
  by_cases hx : x.ep = ep
  case neg =>
    have HR2 : Hid (rCommit r job ep = (4, r)) := by rw [Hid, HR3.out]; simp [hx]
    have q1 : (x.ep != ep) = true := by simpa using hx
    have q2 : (x.ep == ep) = false := by simpa using hx
    clear HR3 hx
    rcases Decidable.em (0 < ep) with hep | hep
    · have g0 : decide (0 < ep) = true := decide_eq_true hep
      have g1 := HG.out hep
      clear hep
      go_enter Try.func26, Try.ntmps26
      go_wp2_with fail
      refine (rsEpoch_any S hm2 job true).mono ?_
      rintro e w1 ⟨rfl, rfl⟩
      rw [HE1.out]
      go_wp2_with fail
      refine (rsFind_any S hm2 job false).mono ?_
      rintro e w1 ⟨rfl, rfl⟩
      rw [HF.out]
      go_wp2
      go_ret
      rw [HR2.out]
      exact ⟨aL, cL, rfl, S⟩
    · have g0 : decide (0 < ep) = false := decide_eq_false hep
      clear hep
      go_enter Try.func26, Try.ntmps26
      go_wp2_with fail
      refine (rsFind_any S hm2 job false).mono ?_
      rintro e w1 ⟨rfl, rfl⟩
      rw [HF.out]
      go_wp2
      go_ret
      rw [HR2.out]
      exact ⟨aL, cL, rfl, S⟩
  have HR2 : Hid (rCommit r job ep = (0, { rEnd r job with L := (rEnd r job).L ++ [{ x with cnt := true }] })) := by rw [Hid, HR3.out]; simp [hx]
  have q1 : (x.ep != ep) = false := by simpa using hx
  have q2 : (x.ep == ep) = true := by simpa using hx
  clear HR3 hx
  have S7 : St w0 (w.alloc (.cells #[.int .i64 x.job, .int .i64 x.ep, .bool true, .slice x.d.a x.d.n x.d.c] 105)) (rstL h aL cL r (tl ++ [cellsT w.heap.size 105 [.int .i64 x.job, .int .i64 x.ep, .bool true, .slice x.d.a x.d.n x.d.c]])) := newAtG S _ _ _ rfl
  rcases Decidable.em (0 < ep) with hep | hep
  · have g0 : decide (0 < ep) = true := decide_eq_true hep
    have g1 := HG.out hep
    clear hep
    go_enter Try.func26, Try.ntmps26
    go_wp2_with fail
    refine (rsEpoch_any S hm2 job true).mono ?_
    rintro e w1 ⟨rfl, rfl⟩
    rw [HE1.out]
    go_wp2_with fail
    refine (rsFind_any S hm2 job false).mono ?_
    rintro e w1 ⟨rfl, rfl⟩
    rw [HF.out]
    go_wp2_with fail
    refine (rsEnd_any S7 hm2 job).mono ?_
    rintro e w8 ⟨a8, c8, rfl, S8⟩
    have S9 : St w0 w8 (cellsT w.heap.size 105 [.int .i64 x.job, .int .i64 x.ep, .bool true, .slice x.d.a x.d.n x.d.c] :: rstL h a8 c8 (rEnd r job) tl) := (S8 : St w0 w8 (rstL h a8 c8 (rEnd r job) tl ++ [_])).rot
    have hl2 := rEnd_len r job
    obtain ⟨r2, hr2⟩ : ∃ r2, rEnd r job = r2 := ⟨_, rfl⟩
    rw [hr2] at HR2 S9 hl2
    clear S8 S7 y0 y1 y2 y3 i0 c0 hr2
    generalize w.heap.size = B at *
    have HC : Hid (∀ w' l, St w0 w' (cellsT B 105 [.int .i64 x.job, .int .i64 x.ep, .bool true, .slice x.d.a x.d.n x.d.c] :: rstL h a8 c8 r2 l) → (w'.cell? ⟨B, 0, none⟩ = some (.int .i64 x.job) ∧ w'.cell? ⟨B, 1, none⟩ = some (.int .i64 x.ep) ∧ w'.cell? ⟨B, 2, none⟩ = some (.bool true) ∧ w'.cell? ⟨B, 3, none⟩ = some (.slice x.d.a x.d.n x.d.c) ∧ w'.cell? ⟨h, 2, none⟩ = some (.slice a8 r2.L.length c8))) := fun w' l S' => ⟨S'.cell 0 rfl 0 rfl, S'.cell 0 rfl 1 rfl, S'.cell 0 rfl 2 rfl, S'.cell 0 rfl 3 rfl, S'.cell 1 rfl 2 rfl⟩
    go_wp2_with fail
    refine wp_region_heldZ (S := (fun w' => (w'.cell? ⟨B, 0, none⟩ = some (.int .i64 x.job) ∧ w'.cell? ⟨B, 1, none⟩ = some (.int .i64 x.ep) ∧ w'.cell? ⟨B, 2, none⟩ = some (.bool true) ∧ w'.cell? ⟨B, 3, none⟩ = some (.slice x.d.a x.d.n x.d.c) ∧ w'.cell? ⟨h, 2, none⟩ = some (.slice a8 r2.L.length c8)))) 7 (by kernel_rfl) (by exact HC.out _ _ S9.drew) (fun hHeld => ?_)
    change wpAnyZ _ _ _ _ _ 7 11 (Array.replicate 11 false) _ _
    refine wpAnyZ_pure (i := 0) (v := ?v1) (ops_at rfl) (by kernel_rfl) (by kernel_rfl) (by kernel_rfl) (by kernel_rfl) (by rfl) (fun _ _ _ h => h) (Or.inl ⟨by rfl, ?hy1⟩) (fun _ => by assumption) ?rest1
    case hy1 => intro w' hSw; (try dsimp only at hSw); go_simp; try with_reducible rfl
    try simp only [Act.put, List.setIfInBounds_toArray, List.set_cons_zero, List.set_cons_succ]
    refine wpAnyZ_take (i := 1) (v := ?v2) (ops_at rfl) (by kernel_rfl) (by kernel_rfl) (by kernel_rfl) (by kernel_rfl) [2, 3, 4, 7] (by kernel_rfl) (by rfl) (fun _ _ _ h => h) (Or.inl ⟨by rfl, ?hy2⟩) (by assumption) ?rest2
    case hy2 => intro w' hSw; (try dsimp only at hSw); go_simp; try with_reducible rfl
    try simp only [Act.put, List.setIfInBounds_toArray, List.set_cons_zero, List.set_cons_succ]
    refine wpAnyZ_take (i := 2) (v := ?v3) (ops_at rfl) (by kernel_rfl) (by kernel_rfl) (by kernel_rfl) (by kernel_rfl) [3, 4, 7] (by kernel_rfl) (by rfl) (fun _ _ _ h => h) (Or.inl ⟨by rfl, ?hy3⟩) (by assumption) ?rest3
    case hy3 => intro w' hSw; (try dsimp only at hSw); go_simp; try with_reducible rfl
    try simp only [Act.put, List.setIfInBounds_toArray, List.set_cons_zero, List.set_cons_succ]
    refine wpAnyZ_take (i := 3) (v := ?v4) (ops_at rfl) (by kernel_rfl) (by kernel_rfl) (by kernel_rfl) (by kernel_rfl) [4, 7] (by kernel_rfl) (by rfl) (fun _ _ _ h => h) (Or.inl ⟨by rfl, ?hy4⟩) (by assumption) ?rest4
    case hy4 => intro w' hSw; (try dsimp only at hSw); go_simp; try with_reducible rfl
    try simp only [Act.put, List.setIfInBounds_toArray, List.set_cons_zero, List.set_cons_succ]
    refine wpAnyZ_take (i := 4) (v := ?v5) (ops_at rfl) (by kernel_rfl) (by kernel_rfl) (by kernel_rfl) (by kernel_rfl) [7] (by kernel_rfl) (by rfl) (fun _ _ _ h => h) (Or.inl ⟨by rfl, ?hy5⟩) (by assumption) ?rest5
    case hy5 => intro w' hSw; (try dsimp only at hSw); go_simp; try with_reducible rfl
    try simp only [Act.put, List.setIfInBounds_toArray, List.set_cons_zero, List.set_cons_succ]
    refine wpAnyZ_take (i := 5) (v := ?v6) (ops_at rfl) (by kernel_rfl) (by kernel_rfl) (by kernel_rfl) (by kernel_rfl) [6, 7] (by kernel_rfl) (by rfl) (fun _ _ _ h => h) (Or.inl ⟨by rfl, ?hy6⟩) (by assumption) ?rest6
    case hy6 => intro w' hSw; (try dsimp only at hSw); go_simp; try with_reducible rfl
    try simp only [Act.put, List.setIfInBounds_toArray, List.set_cons_zero, List.set_cons_succ]
    refine wpAnyZ_one (i := 6) (by kernel_rfl) (ops_at rfl) (fun K hK => ?_)
    go_simp
    refine hK.out _ _ (by exact HC.out _ _ (S9.drew.alloc _)) (fun hHeld => ?_)
    clear hK K
    try simp only [Act.put, List.setIfInBounds_toArray, List.set_cons_zero, List.set_cons_succ]
    refine wpAnyZ_free (i := 7) (by kernel_rfl) (ops_at rfl) (by kernel_rfl) (fun K hK => ?_)
    refine step_app (by rfl) (.tmp 50) (.tmp 52) eRP.T eRP.T eRP.T rfl rfl _ _ rfl rfl (S9.drew.appG1 eRPok w8.heap.size rfl 2 rfl { x with cnt := true } _ (by rfl) (r2.L.length + 1) rfl (by show _ * 48 ≤ _; omega) (by unfold maxLen; omega)) ?_
    rintro v6 w6 ⟨⟨a6, c6, rfl⟩, S6⟩
    have f6 := S6.frozen 1 rfl 2
    have d6 := S6.cell 1 rfl 2 rfl
    refine hK.out _ _ ?_
    clear hK K
    try simp only [Act.put, List.setIfInBounds_toArray, List.set_cons_zero, List.set_cons_succ]
    refine wpAnyZ_pure (i := 8) (v := ?v7) (ops_at rfl) (by kernel_rfl) (by kernel_rfl) (by kernel_rfl) (by kernel_rfl) (by rfl) (fun _ _ _ h => h) (Or.inl ⟨by rfl, ?hy7⟩) (fun h => absurd h (by decide)) ?rest7
    case hy7 => intro w' hSw; (try dsimp only at hSw); go_simp; try with_reducible rfl
    try simp only [Act.put, List.setIfInBounds_toArray, List.set_cons_zero, List.set_cons_succ]
    refine wpAnyZ_pure (i := 9) (v := ?v8) (ops_at rfl) (by kernel_rfl) (by kernel_rfl) (by kernel_rfl) (by kernel_rfl) (by rfl) (fun _ _ _ h => h) (Or.inl ⟨by rfl, ?hy8⟩) (fun h => absurd h (by decide)) ?rest8
    case hy8 => intro w' hSw; (try dsimp only at hSw); go_simp; try with_reducible rfl
    try simp only [Act.put, List.setIfInBounds_toArray, List.set_cons_zero, List.set_cons_succ]
    refine wpAnyZ_free (i := 10) (by kernel_rfl) (ops_at rfl) (by kernel_rfl) (fun K hK => ?_)
    go_simp
    refine hK.out _ _ ?_
    clear hK K
    try simp only [Act.put, List.setIfInBounds_toArray, List.set_cons_zero, List.set_cons_succ]
    refine wpAnyZ_done (by kernel_rfl) ?_ _
    have S10 := (S6.setCell 1 rfl 2 (.slice a6 (r2.L.length + 1) c6)).tail
    go_wp2
    go_ret
    rw [HR2.out]
    refine ⟨a6, c6, rfl, St.conv S10 ?_⟩
    simp [rstL, rstC]
  · have g0 : decide (0 < ep) = false := decide_eq_false hep
    clear hep
    go_enter Try.func26, Try.ntmps26
    go_wp2_with fail
    refine (rsFind_any S hm2 job false).mono ?_
    rintro e w1 ⟨rfl, rfl⟩
    rw [HF.out]
    go_wp2_with fail
    refine (rsEnd_any S7 hm2 job).mono ?_
    rintro e w8 ⟨a8, c8, rfl, S8⟩
    have S9 : St w0 w8 (cellsT w.heap.size 105 [.int .i64 x.job, .int .i64 x.ep, .bool true, .slice x.d.a x.d.n x.d.c] :: rstL h a8 c8 (rEnd r job) tl) := (S8 : St w0 w8 (rstL h a8 c8 (rEnd r job) tl ++ [_])).rot
    have hl2 := rEnd_len r job
    obtain ⟨r2, hr2⟩ : ∃ r2, rEnd r job = r2 := ⟨_, rfl⟩
    rw [hr2] at HR2 S9 hl2
    clear S8 S7 y0 y1 y2 y3 i0 c0 hr2
    generalize w.heap.size = B at *
    have HC : Hid (∀ w' l, St w0 w' (cellsT B 105 [.int .i64 x.job, .int .i64 x.ep, .bool true, .slice x.d.a x.d.n x.d.c] :: rstL h a8 c8 r2 l) → (w'.cell? ⟨B, 0, none⟩ = some (.int .i64 x.job) ∧ w'.cell? ⟨B, 1, none⟩ = some (.int .i64 x.ep) ∧ w'.cell? ⟨B, 2, none⟩ = some (.bool true) ∧ w'.cell? ⟨B, 3, none⟩ = some (.slice x.d.a x.d.n x.d.c) ∧ w'.cell? ⟨h, 2, none⟩ = some (.slice a8 r2.L.length c8))) := fun w' l S' => ⟨S'.cell 0 rfl 0 rfl, S'.cell 0 rfl 1 rfl, S'.cell 0 rfl 2 rfl, S'.cell 0 rfl 3 rfl, S'.cell 1 rfl 2 rfl⟩
    go_wp2_with fail
    refine wp_region_heldZ (S := (fun w' => (w'.cell? ⟨B, 0, none⟩ = some (.int .i64 x.job) ∧ w'.cell? ⟨B, 1, none⟩ = some (.int .i64 x.ep) ∧ w'.cell? ⟨B, 2, none⟩ = some (.bool true) ∧ w'.cell? ⟨B, 3, none⟩ = some (.slice x.d.a x.d.n x.d.c) ∧ w'.cell? ⟨h, 2, none⟩ = some (.slice a8 r2.L.length c8)))) 7 (by kernel_rfl) (by exact HC.out _ _ S9.drew) (fun hHeld => ?_)
    change wpAnyZ _ _ _ _ _ 7 11 (Array.replicate 11 false) _ _
    refine wpAnyZ_pure (i := 0) (v := ?v9) (ops_at rfl) (by kernel_rfl) (by kernel_rfl) (by kernel_rfl) (by kernel_rfl) (by rfl) (fun _ _ _ h => h) (Or.inl ⟨by rfl, ?hy9⟩) (fun _ => by assumption) ?rest9
    case hy9 => intro w' hSw; (try dsimp only at hSw); go_simp; try with_reducible rfl
    try simp only [Act.put, List.setIfInBounds_toArray, List.set_cons_zero, List.set_cons_succ]
    refine wpAnyZ_take (i := 1) (v := ?v10) (ops_at rfl) (by kernel_rfl) (by kernel_rfl) (by kernel_rfl) (by kernel_rfl) [2, 3, 4, 7] (by kernel_rfl) (by rfl) (fun _ _ _ h => h) (Or.inl ⟨by rfl, ?hy10⟩) (by assumption) ?rest10
    case hy10 => intro w' hSw; (try dsimp only at hSw); go_simp; try with_reducible rfl
    try simp only [Act.put, List.setIfInBounds_toArray, List.set_cons_zero, List.set_cons_succ]
    refine wpAnyZ_take (i := 2) (v := ?v11) (ops_at rfl) (by kernel_rfl) (by kernel_rfl) (by kernel_rfl) (by kernel_rfl) [3, 4, 7] (by kernel_rfl) (by rfl) (fun _ _ _ h => h) (Or.inl ⟨by rfl, ?hy11⟩) (by assumption) ?rest11
    case hy11 => intro w' hSw; (try dsimp only at hSw); go_simp; try with_reducible rfl
    try simp only [Act.put, List.setIfInBounds_toArray, List.set_cons_zero, List.set_cons_succ]
    refine wpAnyZ_take (i := 3) (v := ?v12) (ops_at rfl) (by kernel_rfl) (by kernel_rfl) (by kernel_rfl) (by kernel_rfl) [4, 7] (by kernel_rfl) (by rfl) (fun _ _ _ h => h) (Or.inl ⟨by rfl, ?hy12⟩) (by assumption) ?rest12
    case hy12 => intro w' hSw; (try dsimp only at hSw); go_simp; try with_reducible rfl
    try simp only [Act.put, List.setIfInBounds_toArray, List.set_cons_zero, List.set_cons_succ]
    refine wpAnyZ_take (i := 4) (v := ?v13) (ops_at rfl) (by kernel_rfl) (by kernel_rfl) (by kernel_rfl) (by kernel_rfl) [7] (by kernel_rfl) (by rfl) (fun _ _ _ h => h) (Or.inl ⟨by rfl, ?hy13⟩) (by assumption) ?rest13
    case hy13 => intro w' hSw; (try dsimp only at hSw); go_simp; try with_reducible rfl
    try simp only [Act.put, List.setIfInBounds_toArray, List.set_cons_zero, List.set_cons_succ]
    refine wpAnyZ_take (i := 5) (v := ?v14) (ops_at rfl) (by kernel_rfl) (by kernel_rfl) (by kernel_rfl) (by kernel_rfl) [6, 7] (by kernel_rfl) (by rfl) (fun _ _ _ h => h) (Or.inl ⟨by rfl, ?hy14⟩) (by assumption) ?rest14
    case hy14 => intro w' hSw; (try dsimp only at hSw); go_simp; try with_reducible rfl
    try simp only [Act.put, List.setIfInBounds_toArray, List.set_cons_zero, List.set_cons_succ]
    refine wpAnyZ_one (i := 6) (by kernel_rfl) (ops_at rfl) (fun K hK => ?_)
    go_simp
    refine hK.out _ _ (by exact HC.out _ _ (S9.drew.alloc _)) (fun hHeld => ?_)
    clear hK K
    try simp only [Act.put, List.setIfInBounds_toArray, List.set_cons_zero, List.set_cons_succ]
    refine wpAnyZ_free (i := 7) (by kernel_rfl) (ops_at rfl) (by kernel_rfl) (fun K hK => ?_)
    refine step_app (by rfl) (.tmp 50) (.tmp 52) eRP.T eRP.T eRP.T rfl rfl _ _ rfl rfl (S9.drew.appG1 eRPok w8.heap.size rfl 2 rfl { x with cnt := true } _ (by rfl) (r2.L.length + 1) rfl (by show _ * 48 ≤ _; omega) (by unfold maxLen; omega)) ?_
    rintro v6 w6 ⟨⟨a6, c6, rfl⟩, S6⟩
    have f6 := S6.frozen 1 rfl 2
    have d6 := S6.cell 1 rfl 2 rfl
    refine hK.out _ _ ?_
    clear hK K
    try simp only [Act.put, List.setIfInBounds_toArray, List.set_cons_zero, List.set_cons_succ]
    refine wpAnyZ_pure (i := 8) (v := ?v15) (ops_at rfl) (by kernel_rfl) (by kernel_rfl) (by kernel_rfl) (by kernel_rfl) (by rfl) (fun _ _ _ h => h) (Or.inl ⟨by rfl, ?hy15⟩) (fun h => absurd h (by decide)) ?rest15
    case hy15 => intro w' hSw; (try dsimp only at hSw); go_simp; try with_reducible rfl
    try simp only [Act.put, List.setIfInBounds_toArray, List.set_cons_zero, List.set_cons_succ]
    refine wpAnyZ_pure (i := 9) (v := ?v16) (ops_at rfl) (by kernel_rfl) (by kernel_rfl) (by kernel_rfl) (by kernel_rfl) (by rfl) (fun _ _ _ h => h) (Or.inl ⟨by rfl, ?hy16⟩) (fun h => absurd h (by decide)) ?rest16
    case hy16 => intro w' hSw; (try dsimp only at hSw); go_simp; try with_reducible rfl
    try simp only [Act.put, List.setIfInBounds_toArray, List.set_cons_zero, List.set_cons_succ]
    refine wpAnyZ_free (i := 10) (by kernel_rfl) (ops_at rfl) (by kernel_rfl) (fun K hK => ?_)
    go_simp
    refine hK.out _ _ ?_
    clear hK K
    try simp only [Act.put, List.setIfInBounds_toArray, List.set_cons_zero, List.set_cons_succ]
    refine wpAnyZ_done (by kernel_rfl) ?_ _
    have S10 := (S6.setCell 1 rfl 2 (.slice a6 (r2.L.length + 1) c6)).tail
    go_wp2
    go_ret
    rw [HR2.out]
    refine ⟨a6, c6, rfl, St.conv S10 ?_⟩
    simp [rstL, rstC]
end

end Go.Proofs.Ytilobmefomoemaa

namespace Go.Proofs.Ytilobmefomoemaa
set_option linter.unusedVariables false
set_option linter.unusedSimpArgs false
open Go.RowKit
section
variable {w0 w : World} {tl r0 : List Thing} {h : Nat} {q : QS}
theorem rwith_mem {L : List RP} {job : Int} {c : Bool} {x : RP} (hx : x ∈ rwith L job c) : x ∈ L := (List.mem_filter.1 hx).1
theorem rsum_all {L : List RP} (hd : ∀ x ∈ L, x.d.l.length = x.d.n) : rsum L L.length = pbytes (L.map RP.pt) := by
  unfold rsum pbytes
  rw [List.take_length, List.map_map]
  congr 1
  apply List.map_congr_left
  intro x hx
  exact (hd x hx).symm
theorem ROk.lens {r : RS} {aL : Option Addr} {cL : Nat} {D : List BS} (h1 : ROk r D q) (S : St w0 w (rstL h aL cL r (poolT D :: tl))) : ∀ x ∈ r.L, x.d.l.length = x.d.n := fun x hx => (S.poolAt 2 rfl (h1.mem x hx)).1.len
set_option maxRecDepth 10000 in
set_option maxHeartbeats 3200000 in
theorem rqStage_any (S : St w0 w (rstT h q :: tl)) (hm : q.L.length ≤ 100000) (hw : q.writes ≤ 1000000) (term jb ep : Int) (a : Option Addr) (b : List UInt8) (n cap : Nat) (hn : b.length = n) (hN : n ≤ 140737488355328) (hA : At w0 a b) :
    Calls Try.prog 28 #[.pointer (some ⟨h, 0, none⟩), .int .i64 term, .int .i64 jb, .int .i64 ep, .slice a n cap] w fun e w' => e = .returned (.int .i64 (qStage q term jb ep b).1) ∧ St w0 w' (rstT h (qStage q term jb ep b).2 :: tl) := by
  have HS := hid S
  obtain ⟨r, aL, cL, D, R, S1⟩ := S.rstO
  clear S
  obtain ⟨hq, hmem, hsmall⟩ := R
  have hlen := ROk.lens ⟨hq, hmem, hsmall⟩ S1
  have HB := hid (rsum_all (L := rwith r.L jb false) fun x hx => hlen x (rwith_mem hx))
  rw [rwith_pt] at HB
  have HE0 := hid (repoch_pt r.L jb false)
  have HE1 := hid (repoch_pt r.L jb true)
  have hm1 : r.L.length ≤ 100000 := by rw [← hq] at hm; simpa [RS.q] using hm
  have hm2 : r.L.length ≤ 1000000 := by omega
  have hw1 : r.writes ≤ 1000000 := by rw [← hq] at hw; exact hw
  have hE : qStage q term jb ep b = if term < r.term then (6, q)
      else if jb < 1 ∨ 24 < jb ∨ ep < 1 ∨ 1000000 < ep ∨ n < 1 ∨ 100 < n then (1, q)
      else if ep ≤ repoch r.L jb true ∨ ep < repoch r.L jb false then (6, q)
      else if ep = repoch r.L jb false then (0, q)
      else if r.room < (rsum (rwith r.L jb false) (rwith r.L jb false).length : Int) + n then (3, q)
      else (0, { q with L := pwith q.L jb false ++ [⟨jb, ep, false, b⟩], writes := q.writes + 1 }) := by
    unfold qStage
    rw [hn, HB.out, HE0.out, HE1.out, ← hq]; rfl
  clear HB HE0 HE1 hm hw hlen
  have c0 := S1.cell 0 rfl 1 rfl
  have c1 := S1.cell 0 rfl 0 rfl
  have HN := hid hn
  have HA := hid hA
  clear hn hA
  by_cases q0 : term < r.term
  · rw [show qStage q term jb ep b = (6, q) by rw [hE, if_pos q0]]
    have g : decide (term < r.term) = true := decide_eq_true q0
    clear hE q0 S1
    go_enter Try.func28, Try.ntmps28
    go_wp2
    go_ret
    exact ⟨rfl, HS.out⟩
  have g0 : decide (term < r.term) = false := decide_eq_false q0
  rw [if_neg q0] at hE
  by_cases q1 : jb < 1
  · rw [show qStage q term jb ep b = (1, q) by rw [hE, if_pos (.inl q1)]]
    have g : decide (jb < 1) = true := decide_eq_true q1
    clear hE q0 q1 S1
    go_enter Try.func28, Try.ntmps28
    go_wp2
    go_ret
    exact ⟨rfl, HS.out⟩
  have g1 : decide (jb < 1) = false := decide_eq_false q1
  by_cases q2 : 24 < jb
  · rw [show qStage q term jb ep b = (1, q) by rw [hE, if_pos (.inr (.inl q2))]]
    have g : decide (24 < jb) = true := decide_eq_true q2
    clear hE q0 q1 q2 S1
    go_enter Try.func28, Try.ntmps28
    go_wp2
    go_ret
    exact ⟨rfl, HS.out⟩
  have g2 : decide (24 < jb) = false := decide_eq_false q2
  by_cases q3 : ep < 1
  · rw [show qStage q term jb ep b = (1, q) by rw [hE, if_pos (.inr (.inr (.inl q3)))]]
    have g : decide (ep < 1) = true := decide_eq_true q3
    clear hE q0 q1 q2 q3 S1
    go_enter Try.func28, Try.ntmps28
    go_wp2
    go_ret
    exact ⟨rfl, HS.out⟩
  have g3 : decide (ep < 1) = false := decide_eq_false q3
  by_cases q4 : 1000000 < ep
  · rw [show qStage q term jb ep b = (1, q) by rw [hE, if_pos (.inr (.inr (.inr (.inl q4))))]]
    have g : decide (1000000 < ep) = true := decide_eq_true q4
    clear hE q0 q1 q2 q3 q4 S1
    go_enter Try.func28, Try.ntmps28
    go_wp2
    go_ret
    exact ⟨rfl, HS.out⟩
  have g4 : decide (1000000 < ep) = false := decide_eq_false q4
  by_cases q5 : n < 1
  · rw [show qStage q term jb ep b = (1, q) by rw [hE, if_pos (.inr (.inr (.inr (.inr (.inl q5)))))]]
    have g : decide ((n : Int) < 1) = true := decide_eq_true (by omega)
    have gn : decide (n < 1) = true := decide_eq_true q5
    have en : n = 0 := by omega
    subst en
    clear hE q0 q1 q2 q3 q4 q5 S1
    go_enter Try.func28, Try.ntmps28
    go_wp2
    go_ret
    exact ⟨rfl, HS.out⟩
  have g5 : decide ((n : Int) < 1) = false := decide_eq_false (by omega)
  have g5n : decide (n < 1) = false := decide_eq_false q5
  have g5z : decide (n = 0) = false := decide_eq_false (by omega)
  by_cases q6 : 100 < n
  · rw [show qStage q term jb ep b = (1, q) by rw [hE, if_pos (.inr (.inr (.inr (.inr (.inr q6)))))]]
    have g : decide ((100 : Int) < (n : Int)) = true := decide_eq_true (by omega)
    have gn : decide (100 < n) = true := decide_eq_true q6
    clear hE q0 q1 q2 q3 q4 q5 S1
    go_enter Try.func28, Try.ntmps28
    go_wp2
    go_ret
    exact ⟨rfl, HS.out⟩
  have g6 : decide ((100 : Int) < (n : Int)) = false := decide_eq_false (by omega)
  have g6n : decide (100 < n) = false := decide_eq_false q6
  rw [if_neg (by omega)] at hE
  obtain ⟨E0, hE0⟩ : ∃ E0, repoch r.L jb false = E0 := ⟨_, rfl⟩
  obtain ⟨E1, hE1⟩ : ∃ E1, repoch r.L jb true = E1 := ⟨_, rfl⟩
  rw [hE0, hE1] at hE
  have HE0 := hid hE0
  have HE1 := hid hE1
  clear hE0 hE1 q0 q1 q2 q3 q4
  by_cases q7 : ep ≤ E1
  · rw [show qStage q term jb ep b = (6, q) by rw [hE, if_pos (.inl q7)]]
    have g : decide (ep ≤ E1) = true := decide_eq_true q7
    clear hE q7
    go_enter Try.func28, Try.ntmps28
    go_wp2_with fail
    refine (rsEpoch_any S1 hm2 jb false).mono ?_
    rintro e w1 ⟨rfl, rfl⟩
    rw [HE0.out]
    go_wp2_with fail
    refine (rsEpoch_any S1 hm2 jb true).mono ?_
    rintro e w1 ⟨rfl, rfl⟩
    rw [HE1.out]
    go_wp2
    go_ret
    exact ⟨rfl, HS.out⟩
  have g7 : decide (ep ≤ E1) = false := decide_eq_false q7
  by_cases q8 : ep < E0
  · rw [show qStage q term jb ep b = (6, q) by rw [hE, if_pos (.inr q8)]]
    have g : decide (ep < E0) = true := decide_eq_true q8
    clear hE q7 q8
    go_enter Try.func28, Try.ntmps28
    go_wp2_with fail
    refine (rsEpoch_any S1 hm2 jb false).mono ?_
    rintro e w1 ⟨rfl, rfl⟩
    rw [HE0.out]
    go_wp2_with fail
    refine (rsEpoch_any S1 hm2 jb true).mono ?_
    rintro e w1 ⟨rfl, rfl⟩
    rw [HE1.out]
    go_wp2
    go_ret
    exact ⟨rfl, HS.out⟩
  have g8 : decide (ep < E0) = false := decide_eq_false q8
  rw [if_neg (by omega)] at hE
  by_cases q9 : ep = E0
  · rw [show qStage q term jb ep b = (0, q) by rw [hE, if_pos q9]]
    have g : (ep == E0) = true := by simpa using q9
    clear hE q7 q8 q9
    go_enter Try.func28, Try.ntmps28
    go_wp2_with fail
    refine (rsEpoch_any S1 hm2 jb false).mono ?_
    rintro e w1 ⟨rfl, rfl⟩
    rw [HE0.out]
    go_wp2_with fail
    refine (rsEpoch_any S1 hm2 jb true).mono ?_
    rintro e w1 ⟨rfl, rfl⟩
    rw [HE1.out]
    go_wp2
    go_ret
    exact ⟨rfl, HS.out⟩
  have g9 : (ep == E0) = false := by simpa using q9
  rw [if_neg q9] at hE
  clear q7 q8 q9
  obtain ⟨L2, hL2⟩ : ∃ L2, rwith r.L jb false = L2 := ⟨_, rfl⟩
  have HL2 := hid hL2
  have HM2 := hid (rwith_len r.L jb false)
  have HS2 : Hid (∀ x ∈ L2, x.d.n ≤ 100) := fun x hx => hsmall x (rwith_mem (hL2 ▸ hx))
  rw [hL2] at hE HM2
  obtain ⟨U, hU⟩ : ∃ U, rsum L2 L2.length = U := ⟨_, rfl⟩
  have HU := hid hU
  rw [hU] at hE
  obtain ⟨m, hm⟩ : ∃ m, L2.length = m := ⟨_, rfl⟩
  have HM := hid hm
  have hmm : m ≤ 100000 := by have := HM2.out; omega
  have hUU : U ≤ 10000000 := by
    have := rsum_le HS2.out L2.length (Nat.le_refl _)
    omega
  clear hU hL2 hm
  have HC : Hid (∀ w' a c, St w0 w' (ownT eRP (.slice a m c) L2 :: rstL h aL cL r (poolT D :: tl)) → w'.cell? ⟨h, 0, none⟩ = some (.int .i64 r.room)) := fun w' a c S' => S'.cell 1 rfl 0 rfl
  have hwr : IntKind.i64.wrap ((U : Int) + (n : Int)) = (U : Int) + (n : Int) := by rw [IntKind.wrap_i64]; omega
  by_cases q10 : r.room < (U : Int) + n
  · rw [show qStage q term jb ep b = (3, q) by rw [hE, if_pos q10]]
    have g : decide (r.room < IntKind.i64.wrap ((U : Int) + (n : Int))) = true := by rw [hwr]; exact decide_eq_true q10
    clear hE
    go_enter Try.func28, Try.ntmps28
    go_wp2_with fail
    refine (rsEpoch_any S1 hm2 jb false).mono ?_
    rintro e w1 ⟨rfl, rfl⟩
    rw [HE0.out]
    go_wp2_with fail
    refine (rsEpoch_any S1 hm2 jb true).mono ?_
    rintro e w1 ⟨rfl, rfl⟩
    rw [HE1.out]
    go_wp2_with fail
    refine (rsWithout_any S1 hm2 jb false).mono ?_
    rintro e w1 ⟨a1, k1, rfl, S2⟩
    rw [HL2.out, HM.out] at S2 ⊢
    go_wp2_with fail
    refine wp_region_held_drew (S := (fun w' => w'.cell? ⟨h, 0, none⟩ = some (.int .i64 r.room))) (by kernel_rfl) (by exact HC.out _ _ _ S2.drew) (fun hHeld => ?_)
    change wpAnyH _ _ _ _ _ 10 (Array.replicate 10 false) _ _
    refine wpAnyH_take (i := 0) (v := ?v17) (ops_at rfl) (by kernel_rfl) (by kernel_rfl) (by kernel_rfl) (fun _ _ _ h => h) (Or.inl ⟨by rfl, ?hy17⟩) (by assumption) ?rest17
    case hy17 => intro w' hSw; (try dsimp only at hSw); go_simp; try with_reducible rfl
    try simp only [Act.put, List.setIfInBounds_toArray, List.set_cons_zero, List.set_cons_succ]
    refine wpAnyH_take (i := 2) (v := ?v18) (ops_at rfl) (by kernel_rfl) (by kernel_rfl) (by kernel_rfl) (fun _ _ _ h => h) (Or.inl ⟨by rfl, ?hy18⟩) (by assumption) ?rest18
    case hy18 => intro w' hSw; (try dsimp only at hSw); go_simp; try with_reducible rfl
    try simp only [Act.put, List.setIfInBounds_toArray, List.set_cons_zero, List.set_cons_succ]
    refine wpAnyH_take (i := 3) (v := ?v19) (ops_at rfl) (by kernel_rfl) (by kernel_rfl) (by kernel_rfl) (fun _ _ _ h => h) (Or.inl ⟨by rfl, ?hy19⟩) (by assumption) ?rest19
    case hy19 => intro w' hSw; (try dsimp only at hSw); go_simp; try with_reducible rfl
    try simp only [Act.put, List.setIfInBounds_toArray, List.set_cons_zero, List.set_cons_succ]
    refine wpAnyH_take (i := 5) (v := ?v20) (ops_at rfl) (by kernel_rfl) (by kernel_rfl) (by kernel_rfl) (fun _ _ _ h => h) (Or.inl ⟨by rfl, ?hy20⟩) (by assumption) ?rest20
    case hy20 => intro w' hSw; (try dsimp only at hSw); go_simp; try with_reducible rfl
    try simp only [Act.put, List.setIfInBounds_toArray, List.set_cons_zero, List.set_cons_succ]
    refine wpAnyH_take (i := 6) (v := ?v21) (ops_at rfl) (by kernel_rfl) (by kernel_rfl) (by kernel_rfl) (fun _ _ _ h => h) (Or.inl ⟨by rfl, ?hy21⟩) (by assumption) ?rest21
    case hy21 => intro w' hSw; (try dsimp only at hSw); go_simp; try with_reducible rfl
    try simp only [Act.put, List.setIfInBounds_toArray, List.set_cons_zero, List.set_cons_succ]
    refine wpAnyH_take (i := 7) (v := ?v22) (ops_at rfl) (by kernel_rfl) (by kernel_rfl) (by kernel_rfl) (fun _ _ _ h => h) (Or.inl ⟨by rfl, ?hy22⟩) (by assumption) ?rest22
    case hy22 => intro w' hSw; (try dsimp only at hSw); go_simp; try with_reducible rfl
    try simp only [Act.put, List.setIfInBounds_toArray, List.set_cons_zero, List.set_cons_succ]
    refine wpAnyH_take (i := 8) (v := ?v23) (ops_at rfl) (by kernel_rfl) (by kernel_rfl) (by kernel_rfl) (fun _ _ _ h => h) (Or.inl ⟨by rfl, ?hy23⟩) (by assumption) ?rest23
    case hy23 => intro w' hSw; (try dsimp only at hSw); go_simp; try with_reducible rfl
    try simp only [Act.put, List.setIfInBounds_toArray, List.set_cons_zero, List.set_cons_succ]
    refine wpAnyH_ready (rs := [1]) (by kernel_rfl) (by simp) ?_
    refine AllReadyH.cons (ops_at rfl) (fun K hK => ?_) AllReadyH.nil
    go_simp
    refine (rsBytes_any a1 L2 m k1 w1.drew HM.out (by omega) (by exact (S2.drew.slG eRPok 0 rfl).2.2.2.2) HS2.out).mono ?_
    rintro e w3 ⟨rfl, rfl⟩
    have HM' := HM.out
    subst HM'
    rw [HU.out]
    have S3 := S2.drew
    refine hK.out _ _ (by exact HC.out _ _ _ S3) (fun hHeld => ?_)
    clear hK K
    try simp only [Act.put, List.setIfInBounds_toArray, List.set_cons_zero, List.set_cons_succ]
    refine wpAnyH_take (i := 4) (v := ?v25) (ops_at rfl) (by kernel_rfl) (by kernel_rfl) (by kernel_rfl) (fun _ _ _ h => h) (Or.inl ⟨by rfl, ?hy25⟩) (by assumption) ?rest25
    case hy25 => intro w' hSw; (try dsimp only at hSw); go_simp; try with_reducible rfl
    try simp only [Act.put, List.setIfInBounds_toArray, List.set_cons_zero, List.set_cons_succ]
    refine wpAnyH_take (i := 9) (v := ?v26) (ops_at rfl) (by kernel_rfl) (by kernel_rfl) (by kernel_rfl) (fun _ _ _ h => h) (Or.inl ⟨by rfl, ?hy26⟩) (by assumption) ?rest26
    case hy26 => intro w' hSw; (try dsimp only at hSw); go_simp; try with_reducible rfl
    try simp only [Act.put, List.setIfInBounds_toArray, List.set_cons_zero, List.set_cons_succ]
    refine wpAnyH_done (by kernel_rfl) ?_ _
    go_wp2
    all_goals first
      | (exfalso; omega)
      | (go_ret; exact ⟨rfl, St.rstI ⟨hq, hmem, hsmall⟩ S3.tail⟩)
  have g10 : decide (r.room < IntKind.i64.wrap ((U : Int) + (n : Int))) = false := by rw [hwr]; exact decide_eq_false q10
  rw [show qStage q term jb ep b = (0, { q with L := pwith q.L jb false ++ [⟨jb, ep, false, b⟩], writes := q.writes + 1 }) by rw [hE, if_neg q10]]
  clear hE
  go_enter Try.func28, Try.ntmps28
  go_wp2_with fail
  refine (rsEpoch_any S1 hm2 jb false).mono ?_
  rintro e w1 ⟨rfl, rfl⟩
  rw [HE0.out]
  go_wp2_with fail
  refine (rsEpoch_any S1 hm2 jb true).mono ?_
  rintro e w1 ⟨rfl, rfl⟩
  rw [HE1.out]
  go_wp2_with fail
  refine (rsWithout_any S1 hm2 jb false).mono ?_
  rintro e w1 ⟨a1, k1, rfl, S2⟩
  rw [HL2.out, HM.out] at S2 ⊢
  go_wp2_with fail
  refine wp_region_held_drew (S := (fun w' => w'.cell? ⟨h, 0, none⟩ = some (.int .i64 r.room))) (by kernel_rfl) (by exact HC.out _ _ _ S2.drew) (fun hHeld => ?_)
  change wpAnyH _ _ _ _ _ 10 (Array.replicate 10 false) _ _
  refine wpAnyH_take (i := 0) (v := ?v27) (ops_at rfl) (by kernel_rfl) (by kernel_rfl) (by kernel_rfl) (fun _ _ _ h => h) (Or.inl ⟨by rfl, ?hy27⟩) (by assumption) ?rest27
  case hy27 => intro w' hSw; (try dsimp only at hSw); go_simp; try with_reducible rfl
  try simp only [Act.put, List.setIfInBounds_toArray, List.set_cons_zero, List.set_cons_succ]
  refine wpAnyH_take (i := 2) (v := ?v28) (ops_at rfl) (by kernel_rfl) (by kernel_rfl) (by kernel_rfl) (fun _ _ _ h => h) (Or.inl ⟨by rfl, ?hy28⟩) (by assumption) ?rest28
  case hy28 => intro w' hSw; (try dsimp only at hSw); go_simp; try with_reducible rfl
  try simp only [Act.put, List.setIfInBounds_toArray, List.set_cons_zero, List.set_cons_succ]
  refine wpAnyH_take (i := 3) (v := ?v29) (ops_at rfl) (by kernel_rfl) (by kernel_rfl) (by kernel_rfl) (fun _ _ _ h => h) (Or.inl ⟨by rfl, ?hy29⟩) (by assumption) ?rest29
  case hy29 => intro w' hSw; (try dsimp only at hSw); go_simp; try with_reducible rfl
  try simp only [Act.put, List.setIfInBounds_toArray, List.set_cons_zero, List.set_cons_succ]
  refine wpAnyH_take (i := 5) (v := ?v30) (ops_at rfl) (by kernel_rfl) (by kernel_rfl) (by kernel_rfl) (fun _ _ _ h => h) (Or.inl ⟨by rfl, ?hy30⟩) (by assumption) ?rest30
  case hy30 => intro w' hSw; (try dsimp only at hSw); go_simp; try with_reducible rfl
  try simp only [Act.put, List.setIfInBounds_toArray, List.set_cons_zero, List.set_cons_succ]
  refine wpAnyH_take (i := 6) (v := ?v31) (ops_at rfl) (by kernel_rfl) (by kernel_rfl) (by kernel_rfl) (fun _ _ _ h => h) (Or.inl ⟨by rfl, ?hy31⟩) (by assumption) ?rest31
  case hy31 => intro w' hSw; (try dsimp only at hSw); go_simp; try with_reducible rfl
  try simp only [Act.put, List.setIfInBounds_toArray, List.set_cons_zero, List.set_cons_succ]
  refine wpAnyH_take (i := 7) (v := ?v32) (ops_at rfl) (by kernel_rfl) (by kernel_rfl) (by kernel_rfl) (fun _ _ _ h => h) (Or.inl ⟨by rfl, ?hy32⟩) (by assumption) ?rest32
  case hy32 => intro w' hSw; (try dsimp only at hSw); go_simp; try with_reducible rfl
  try simp only [Act.put, List.setIfInBounds_toArray, List.set_cons_zero, List.set_cons_succ]
  refine wpAnyH_take (i := 8) (v := ?v33) (ops_at rfl) (by kernel_rfl) (by kernel_rfl) (by kernel_rfl) (fun _ _ _ h => h) (Or.inl ⟨by rfl, ?hy33⟩) (by assumption) ?rest33
  case hy33 => intro w' hSw; (try dsimp only at hSw); go_simp; try with_reducible rfl
  try simp only [Act.put, List.setIfInBounds_toArray, List.set_cons_zero, List.set_cons_succ]
  refine wpAnyH_ready (rs := [1]) (by kernel_rfl) (by simp) ?_
  refine AllReadyH.cons (ops_at rfl) (fun K hK => ?_) AllReadyH.nil
  go_simp
  refine (rsBytes_any a1 L2 m k1 w1.drew HM.out (by omega) (by exact (S2.drew.slG eRPok 0 rfl).2.2.2.2) HS2.out).mono ?_
  rintro e w3 ⟨rfl, rfl⟩
  have HM' := HM.out
  subst HM'
  rw [HU.out]
  have S3 := S2.drew
  refine hK.out _ _ (by exact HC.out _ _ _ S3) (fun hHeld => ?_)
  clear hK K
  try simp only [Act.put, List.setIfInBounds_toArray, List.set_cons_zero, List.set_cons_succ]
  refine wpAnyH_take (i := 4) (v := ?v35) (ops_at rfl) (by kernel_rfl) (by kernel_rfl) (by kernel_rfl) (fun _ _ _ h => h) (Or.inl ⟨by rfl, ?hy35⟩) (by assumption) ?rest35
  case hy35 => intro w' hSw; (try dsimp only at hSw); go_simp; try with_reducible rfl
  try simp only [Act.put, List.setIfInBounds_toArray, List.set_cons_zero, List.set_cons_succ]
  refine wpAnyH_take (i := 9) (v := ?v36) (ops_at rfl) (by kernel_rfl) (by kernel_rfl) (by kernel_rfl) (fun _ _ _ h => h) (Or.inl ⟨by rfl, ?hy36⟩) (by assumption) ?rest36
  case hy36 => intro w' hSw; (try dsimp only at hSw); go_simp; try with_reducible rfl
  try simp only [Act.put, List.setIfInBounds_toArray, List.set_cons_zero, List.set_cons_succ]
  refine wpAnyH_done (by kernel_rfl) ?_ _
  go_wp2_with first
    | (at_builtin; refine wpList_app (by rfl) (.tmp 76) (.tmp 77) 61 61 61 rfl rfl _ _ rfl rfl (S3.lit0.rot.app 0 rfl a b n cap HN.out (by exact (S3.alloc _).old HA.out) n (by simp) (by omega)) ?_; rintro v5 w5 ⟨⟨a5, c5, rfl⟩, S5⟩)
    | (at_builtin; refine wpList_app (by rfl) (.tmp 73) (.tmp 80) eRP.T eRP.T eRP.T rfl rfl _ _ rfl rfl (S5.appG1 eRPok w5.heap.size rfl 1 rfl ⟨jb, ep, false, ⟨a5, n, c5, b⟩⟩ _ (by rfl) (L2.length + 1) rfl (by show _ * 48 ≤ _; omega) (by unfold maxLen; omega)) ?_; rintro v6 w6 ⟨⟨a6, c6, rfl⟩, S6⟩; have f6 := S6.frozen 2 rfl 2; have d6 := S6.cell 2 rfl 2 rfl; have f7 := S6.frozen 2 rfl 3; have d7 := S6.cell 2 rfl 3 rfl)
  all_goals first
    | (exfalso; omega)
    | skip
  go_ret
  refine ⟨rfl, ?_⟩
  have S7 := (S6.setCell 2 rfl 2 (.slice a6 (L2.length + 1) c6)).setCell 2 rfl 3 (.int .i64 ((r.writes : Int) + 1))
  have S8 : St w0 _ (poolT D :: bytesT (.slice a5 n c5) b :: _) := (((S7.front 3 rfl).tail).front 3 rfl)
  have S9 := S8.poolAdd
  refine St.rstI (r := { r with L := L2 ++ [⟨jb, ep, false, ⟨a5, n, c5, b⟩⟩], writes := r.writes + 1 }) (aL := a6) (cL := c6) (D := ⟨a5, n, c5, b⟩ :: D) ⟨?_, ?_, ?_⟩ (St.conv ((S9.front 1 rfl).front 2 rfl) ?_)
  · rw [← hq, ← HL2.out]
    have e := rwith_pt r.L jb false
    simp [RS.q, RP.pt, e]
  · intro x hx
    rcases List.mem_append.1 hx with hx | hx
    · exact List.mem_cons_of_mem _ (hmem x (rwith_mem (HL2.out ▸ hx)))
    · rw [List.mem_singleton] at hx; subst hx; exact List.mem_cons_self
  · intro x hx
    rcases List.mem_append.1 hx with hx | hx
    · exact HS2.out x hx
    · rw [List.mem_singleton] at hx; subst hx; show n ≤ 100; omega
  · simp [rstL, rstC]
end

end Go.Proofs.Ytilobmefomoemaa
