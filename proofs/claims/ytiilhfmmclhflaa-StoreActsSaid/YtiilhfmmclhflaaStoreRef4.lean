/- The document's store: End, Fence, New, Get. -/
import Derived.Test.YtiilhfmmclhflaaStoreRef3
namespace Go.Proofs.Ytiilhfmmclhflaa
set_option linter.unusedVariables false
set_option linter.unusedSimpArgs false
open Go.RowKit
section
variable {w0 w : World} {tl r0 : List Thing} {h : Nat} {aL : Option Addr} {cL : Nat} {r : RS}
def rEnd (r : RS) (job : Int) : RS := { r with L := rwith (rwith r.L job true) job false }
theorem rwith_len (L : List RP) (job : Int) (c : Bool) : (rwith L job c).length ≤ L.length := List.length_filter_le _ _
theorem St.setL {x : Thing} {L2 : List RP} {a1 : Option Addr} {c1 : Nat} (S : St w0 w (ownT eRP (.slice a1 L2.length c1) L2 :: rstL h aL cL r tl)) :
    St w0 (w.setCell ⟨h, 2, none⟩ (.slice a1 L2.length c1)) (rstL h a1 c1 { r with L := L2 } tl) :=
  (((S.setCell 1 rfl 2 (.slice a1 L2.length c1)).front 2 rfl).tail).front 1 rfl
set_option maxRecDepth 10000 in
theorem rsEnd_any (S : St w0 w (rstL h aL cL r tl)) (hm : r.L.length ≤ 1000000) (job : Int) :
    Calls Try.prog 50 #[.pointer (some ⟨h, 0, none⟩), .int .i64 job] w fun e w' => ∃ a c, e = .returned (.tuple #[]) ∧ St w0 w' (rstL h a c (rEnd r job) tl) := by
  go_enter Try.func50, Try.ntmps50
  go_wp2_with fail
  refine (rsWithout_any S hm job true).mono ?_
  rintro e w1 ⟨a1, c1, rfl, S1⟩
  have f1 := S1.frozen 1 rfl 2
  have d1 := S1.cell 1 rfl 2 rfl
  have S2 := S1.setL (x := poolT [])
  clear S
  go_wp2_with fail
  clear f1 d1 S1
  generalize w1.setCell _ _ = w2 at *
  refine (rsWithout_any S2 (by show (rwith r.L job true).length ≤ _; have := rwith_len r.L job true; omega) job false).mono ?_
  rintro e w3 ⟨a3, c3, rfl, S3⟩
  have f3 := S3.frozen 1 rfl 2
  have d3 := S3.cell 1 rfl 2 rfl
  have S4 := S3.setL (x := poolT [])
  clear S2
  go_wp2
  go_end0
  exact ⟨a3, c3, rfl, S4⟩
set_option maxRecDepth 10000 in
theorem rsFence_any (S : St w0 w (rstL h aL cL r tl)) (term : Int) :
    Calls Try.prog 51 #[.pointer (some ⟨h, 0, none⟩), .int .i64 term] w fun e w' => e = .returned (.tuple #[]) ∧ St w0 w' (rstL h aL cL { r with term := max r.term term } tl) := by
  have c1 := S.cell 0 rfl 1 rfl
  have f1 := S.frozen 0 rfl 1
  by_cases hc : r.term < term
  · have S2 : Hid (St w0 (w.setCell ⟨h, 1, none⟩ (.int .i64 term)) (rstL h aL cL { r with term := max r.term term } tl)) := by
      rw [Hid, show max r.term term = term by omega]
      exact S.setCell 0 rfl 1 (.int .i64 term)
    have g0 : decide (r.term < term) = true := decide_eq_true hc
    clear S
    go_enter Try.func51, Try.ntmps51
    go_wp2
    go_end0
    exact ⟨rfl, S2.out⟩
  · have S2 : Hid (St w0 w (rstL h aL cL { r with term := max r.term term } tl)) := by
      rw [Hid, show max r.term term = r.term by omega]
      exact S
    have g0 : decide (r.term < term) = false := decide_eq_false hc
    clear S
    go_enter Try.func51, Try.ntmps51
    go_wp2
    go_end0
    exact ⟨rfl, S2.out⟩
def RS.new (room : Int) : RS := ⟨max 0 room, 0, [], 0⟩
set_option maxRecDepth 10000 in
theorem rsNew_any (S : St w0 w tl) (room : Int) :
    Calls Try.prog 26 #[.int .i64 room] w fun e w' => e = .returned (.pointer (some ⟨w.heap.size, 0, none⟩)) ∧ St w0 w' (rstL w.heap.size none 0 (RS.new room) tl) := by
  have HK : Hid (∀ M : Int, max 0 room = M → St w0 (w.alloc (.cells #[.int .i64 M, .int .i64 0, .slice none 0 0, .int .i64 0] 49)) (rstL w.heap.size none 0 (RS.new room) tl)) := by
    intro M hM
    have h1 := S.newCells 49 #[.int .i64 M, .int .i64 0, .slice none 0 0, .int .i64 0]
    have h2 := (h1.rot.nilG eRP).rot
    have h3 := h2.front 1 rfl
    rw [← hM] at h3 ⊢
    exact h3
  by_cases hr : 0 ≤ room
  · have S2 := hid (HK.out room (by omega))
    clear HK
    go_enter Try.func26, Try.ntmps26
    go_wp2
    all_goals (
      go_ret
      refine ⟨rfl, ?_⟩
      first | exact S2.out | (have e0 : room = 0 := by omega
                              have := S2.out
                              rw [e0] at this ⊢
                              exact this))
  · have S2 := hid (HK.out 0 (by omega))
    clear HK
    go_enter Try.func26, Try.ntmps26
    go_wp2
    all_goals (first | (exfalso; omega) | (go_ret; exact ⟨rfl, S2.out⟩))
def rgm (job ep : Int) (x : RP) : Bool := decide (x.job = job) && decide (x.ep = ep)
def rGetV (L : List RP) (job ep : Int) : Value := match L.find? (rgm job ep) with
  | none => .tuple #[.slice none 0 0, .bool false]
  | some x => .tuple #[.slice x.d.a x.d.n x.d.c, .bool true]
set_option maxRecDepth 10000 in
set_option maxHeartbeats 1600000 in
theorem rsGet_any (S : St w0 w (rstL h aL cL r tl)) (hm : r.L.length ≤ 1000000) (job ep : Int) :
    Calls Try.prog 28 #[.pointer (some ⟨h, 0, none⟩), .int .i64 job, .int .i64 ep] w fun e w' => e = .returned (rGetV r.L job ep) ∧ w = w' := by
  have c0 := S.cell 0 rfl 2 rfl
  have hAt := (S.slG eRPok 1 rfl).2.2.2.2
  have HAt := hid hAt
  obtain ⟨L, hL⟩ : ∃ L, r.L = L := ⟨_, rfl⟩
  rw [hL] at hm HAt c0 ⊢
  obtain ⟨n, hn⟩ : ∃ n, L.length = n := ⟨_, rfl⟩
  rw [hn] at hm c0
  have HN := hid hn
  clear hn hL hAt S
  go_enter Try.func28, Try.ntmps28
  go_wp2_with fail
  go_loop [8] (fun q => ∃ k : Nat, k ≤ n ∧ q = .int .i64 k ∧ ∀ i (h : i < L.length), i < k → rgm job ep L[i] = false) (fun q => n - (intOf q).toNat)
  case atStart => exact ⟨0, Nat.zero_le _, rfl, fun i h hi => by omega⟩
  case round =>
    obtain ⟨k, hk, rfl, hall⟩ := hrel
    have HAll := hid hall
    clear hall
    by_cases hlt : k < n
    case neg =>
      have g0 : decide ((k : Int) < (n : Int)) = false := decide_eq_false (by omega)
      have g0n : decide (k < n) = false := decide_eq_false (by omega)
      have e : Hid (rGetV L job ep = .tuple #[.slice none 0 0, .bool false]) := by
        rw [Hid]; unfold rGetV
        have : L.find? (rgm job ep) = none := find_no (p := rgm job ep) fun x hx => by
          obtain ⟨i, hi, rfl⟩ := List.getElem_of_mem hx
          exact HAll.out i hi (by have := HN.out; omega)
        rw [this]
      clear hlt
      go_wp2
      go_ret2
      rw [e.out]
      exact ⟨rfl, rfl⟩
    have g0 : decide ((k : Int) < (n : Int)) = true := decide_eq_true (by omega)
    have g0n : decide (k < n) = true := decide_eq_true (by omega)
    have hkl : k < L.length := by rw [HN.out]; exact hlt
    have i0 := fun wx => idxRP aL n cL (fun h => HAt.out.ok (by omega)) k hlt wx
    obtain ⟨y0, y1, y2, y3⟩ := HAt.out.rpAt hkl
    have hall2 : Hid (rgm job ep L[k] = false → ∀ i (h : i < L.length), i < k + 1 → rgm job ep L[i] = false) := by
      intro h i hi hik
      by_cases e : i = k
      · subst e; exact h
      · exact HAll.out i hi (by omega)
    have hfound : Hid (rgm job ep L[k] = true → rGetV L job ep = .tuple #[.slice L[k].d.a L[k].d.n L[k].d.c, .bool true]) := by
      intro h
      unfold rGetV
      rw [find_of hkl h (fun j hj => HAll.out j (by omega) hj)]
    generalize L[k] = x at *
    generalize adr aL (k * 4) = A at *
    by_cases h1 : x.job = job
    · have k1 : (x.job == job) = true := by simpa using h1
      have H1 := hid h1
      clear h1
      by_cases h2 : x.ep = ep
      · have k2 : (x.ep == ep) = true := by simpa using h2
        have hr := hid (hfound.out (by unfold rgm; rw [decide_eq_true H1.out, decide_eq_true h2]; rfl))
        clear h2
        go_wp2
        go_ret2
        rw [hr.out]
        exact ⟨rfl, rfl⟩
      · have k2 : (x.ep == ep) = false := by simpa using h2
        have hr := hid (hall2.out (by unfold rgm; rw [decide_eq_false h2]; simp))
        clear h2
        go_wp2
        go_round
        case rel => exact ⟨k + 1, by omega, by go_num, hr.out⟩
        case measure => simp [intOf]; omega
    · have k1 : (x.job == job) = false := by simpa using h1
      have hr := hid (hall2.out (by unfold rgm; rw [decide_eq_false h1]; rfl))
      clear h1
      go_wp2
      go_round
      case rel => exact ⟨k + 1, by omega, by go_num, hr.out⟩
      case measure => simp [intOf]; omega
end

end Go.Proofs.Ytiilhfmmclhflaa
