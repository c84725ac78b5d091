/- The document's store: Epoch, without, Bytes, Get. -/
import Derived.Test.YtiilhfmmclhflaaStoreRef
namespace Go.Proofs.Ytiilhfmmclhflaa
set_option linter.unusedVariables false
set_option linter.unusedSimpArgs false
open Go.RowKit
section
variable {w0 w : World} {tl : List Thing} {h : Nat} {aL : Option Addr} {cL : Nat} {r : RS}
theorem rfind_cases (L : List RP) (job : Int) (c : Bool) : (rfind L job c = -1 ∧ ∀ x ∈ L, rm job c x = false) ∨ ∃ (k : Nat) (hk : k < L.length), rfind L job c = (k : Int) ∧ rm job c L[k] = true ∧ ∀ j (hj : j < k), rm job c L[j] = false := by
  unfold rfind
  rcases hq : L.findIdx? (rm job c) with _ | k
  · left; exact ⟨rfl, List.findIdx?_eq_none_iff.1 hq⟩
  · right
    obtain ⟨hk, h1, h2⟩ := List.findIdx?_eq_some_iff_getElem.1 hq
    exact ⟨k, hk, rfl, h1, fun j hj => by simpa using h2 j hj⟩
theorem find_of {L : List RP} {p : RP → Bool} {k : Nat} (hk : k < L.length) (h1 : p L[k] = true) (h2 : ∀ j (hj : j < k), p L[j] = false) : L.find? p = some L[k] := by
  rw [List.find?_eq_some_iff_getElem]
  exact ⟨h1, k, hk, rfl, fun j hj => by rw [h2 j hj]; rfl⟩
theorem find_no {L : List RP} {p : RP → Bool} (h : ∀ x ∈ L, p x = false) : L.find? p = none := by
  rw [List.find?_eq_none]; intro x hx; rw [h x hx]; simp
set_option maxRecDepth 10000 in
theorem rsEpoch_any (S : St w0 w (rstL h aL cL r tl)) (hm : r.L.length ≤ 1000000) (job : Int) (c : Bool) :
    Calls Try.prog 29 #[.pointer (some ⟨h, 0, none⟩), .int .i64 job, .bool c] w fun e w' => e = .returned (.int .i64 (repoch r.L job c)) ∧ w = w' := by
  rcases rfind_cases r.L job c with ⟨h1, h2⟩ | ⟨k, hk, h1, h2, h3⟩
  · have e : Hid (repoch r.L job c = 0) := by rw [Hid]; unfold repoch; rw [find_no h2]
    have H1 := hid h1
    clear h1 h2
    go_enter Try.func29, Try.ntmps29
    go_wp2_with fail
    refine (rsFind_any S hm job c).mono ?_
    rintro e' w1 ⟨rfl, rfl⟩
    rw [H1.out]
    go_wp2
    go_ret
    rw [e.out]
    exact ⟨rfl, rfl⟩
  · have e : Hid (repoch r.L job c = r.L[k].ep) := by rw [Hid]; unfold repoch; rw [find_of hk h2 h3]
    have H1 := hid h1
    have c0 := S.cell 0 rfl 2 rfl
    have hAt := (S.slG eRPok 1 rfl).2.2.2.2
    have i0 := fun wx => idxRP aL r.L.length cL (fun h => hAt.ok (by omega)) k hk wx
    obtain ⟨y0, y1, y2, y3⟩ := hAt.rpAt hk
    have g0 : decide ((k : Int) < 0) = false := decide_eq_false (by omega)
    generalize adr aL (k * 4) = A at *
    clear h1 h2 h3 hAt
    rw [e.out]
    go_enter Try.func29, Try.ntmps29
    go_wp2_with fail
    refine (rsFind_any S hm job c).mono ?_
    rintro e' w1 ⟨rfl, rfl⟩
    rw [H1.out]
    go_wp2
    go_ret
    exact ⟨rfl, rfl⟩
def rwith (L : List RP) (job : Int) (c : Bool) : List RP := L.filter fun x => !rm job c x
theorem rwith_step {L : List RP} {k : Nat} (hk : k < L.length) (job : Int) (c : Bool) : rwith (L.take (k + 1)) job c = rwith (L.take k) job c ++ if rm job c L[k] = true then [] else [L[k]] := by
  unfold rwith
  rw [List.take_succ_eq_append_getElem hk, List.filter_append]
  congr 1
  cases h : rm job c L[k] <;> simp [h]
set_option maxRecDepth 10000 in
set_option maxHeartbeats 1600000 in
theorem rsWithout_any (S : St w0 w (rstL h aL cL r tl)) (hm : r.L.length ≤ 1000000) (job : Int) (c : Bool) :
    Calls Try.prog 62 #[.pointer (some ⟨h, 0, none⟩), .int .i64 job, .bool c] w fun e w' => ∃ a c', e = .returned (.slice a (rwith r.L job c).length c') ∧ St w0 w' (ownT eRP (.slice a (rwith r.L job c).length c') (rwith r.L job c) :: rstL h aL cL r tl) := by
  have S0 := (S.nilG eRP).rot
  obtain ⟨n, hn⟩ : ∃ n, r.L.length = n := ⟨_, rfl⟩
  have HN := hid hn
  have HC : Hid (∀ w' v l, St w0 w' (ownT eRP v l :: rstL h aL cL r tl) → w'.cell? ⟨h, 2, none⟩ = some (.slice aL n cL)) := by
    intro w' v l S'
    rw [← hn]; exact S'.cell 1 rfl 2 rfl
  rw [hn] at hm
  clear hn S
  go_enter Try.func62, Try.ntmps62
  go_wp2_with fail
  go_loopw [7, 8] (fun v q wr => ∃ (k N : Nat) (a1 : Option Addr) (c1 : Nat), k ≤ n ∧ v = .slice a1 N c1 ∧ q = .int .i64 k ∧ St w0 wr (ownT eRP (.slice a1 N c1) (rwith (r.L.take k) job c) :: rstL h aL cL r tl)) (fun _ q _ => n - (intOf q).toNat)
  case atStart => exact ⟨0, 0, none, 0, Nat.zero_le _, rfl, rfl, S0⟩
  case round =>
    obtain ⟨k, N, a1, c1, hk, rfl, rfl, Sk⟩ := hrel
    clear S0
    have HN1 := hid (Sk.slG eRPok 0 rfl).1
    have hNk : N ≤ k := by
      have h1 := HN1.out
      have h2 : (rwith (r.L.take k) job c).length ≤ (r.L.take k).length := List.length_filter_le _ _
      rw [List.length_take] at h2; omega
    have c0 := HC.out _ _ _ Sk
    by_cases hlt : k < n
    case neg =>
      have g0 : decide ((k : Int) < (n : Int)) = false := decide_eq_false (by omega)
      have g0n : decide (k < n) = false := decide_eq_false (by omega)
      have e : Hid (r.L.take k = r.L) := by rw [Hid]; exact List.take_of_length_le (by have := HN.out; omega)
      have e2 : Hid (N = (rwith r.L job c).length) := by rw [Hid, ← HN1.out, e.out]
      clear hlt hk
      go_wp2
      go_ret
      refine ⟨a1, c1, ?_, ?_⟩
      · rw [← e2.out]; rfl
      · have := Sk; rw [e.out] at this; rw [← e2.out]; exact this
    have g0 : decide ((k : Int) < (n : Int)) = true := decide_eq_true (by omega)
    have g0n : decide (k < n) = true := decide_eq_true (by omega)
    have hkl : k < r.L.length := by rw [HN.out]; exact hlt
    have hAt := (Sk.slG eRPok 2 rfl).2.2.2.2
    have i0 := fun wx => idxRP aL n cL (fun h => hAt.ok (by omega)) k hlt wx
    obtain ⟨y0, y1, y2, y3⟩ := hAt.rpAt hkl
    have HSt := hid (rwith_step hkl job c)
    generalize r.L[k] = x at *
    generalize adr aL (k * 4) = A at *
    clear hAt
    by_cases hrm : rm job c x = true
    · have k1 : (x.job != job) = false := by unfold rm at hrm; rw [Bool.and_eq_true, decide_eq_true_iff] at hrm; simp [hrm.1]
      have k2 : (x.cnt != c) = false := by unfold rm at hrm; rw [Bool.and_eq_true, beq_iff_eq] at hrm; simp [hrm.2]
      have k3 : (x.cnt == c) = true := by unfold rm at hrm; rw [Bool.and_eq_true] at hrm; exact hrm.2
      have k4 : decide (x.cnt = c) = true := by simpa using k3
      have HS2 : Hid (rwith (r.L.take (k + 1)) job c = rwith (r.L.take k) job c) := by rw [Hid, HSt.out, if_pos hrm]; simp
      clear hrm
      go_wp2
      go_roundw
      case rel => exact ⟨k + 1, N, a1, c1, by omega, rfl, by go_num, by rw [HS2.out]; exact Sk⟩
      case measure => simp [intOf]; omega
    · have HS2 : Hid (rwith (r.L.take (k + 1)) job c = rwith (r.L.take k) job c ++ [x]) := by rw [Hid, HSt.out, if_neg hrm]
      obtain ⟨N1, hN1⟩ : ∃ N1, N + 1 = N1 := ⟨_, rfl⟩
      have HNN := hid hN1
      by_cases k1 : x.job = job
      · have q1 : (x.job != job) = false := by simpa using k1
        have q2 : (x.cnt != c) = true := by
          unfold rm at hrm
          rw [decide_eq_true k1] at hrm
          simpa using hrm
        have q3 : (x.cnt == c) = false := by simpa using q2
        have q4 : decide (x.cnt = c) = false := by simpa using q2
        clear hrm k1
        go_wp2_with (at_builtin; refine wpList_app (by rfl) (.tmp 40) (.tmp 48) eRP.T eRP.T eRP.T rfl rfl _ _ rfl rfl (Sk.appG1 eRPok wr.heap.size rfl 0 rfl x _ (by rfl) N1 (by rw [HN1.out]; exact HNN.out) (by show _ * 48 ≤ _; omega) (by unfold maxLen; omega)) ?_; rintro v3 w3 ⟨⟨a3, c3, rfl⟩, S3⟩)
        go_roundw
        case rel => exact ⟨k + 1, N1, a3, c3, by omega, rfl, by go_num, by rw [HS2.out]; exact S3⟩
        case measure => simp [intOf]; omega
      · have q1 : (x.job != job) = true := by simpa using k1
        clear hrm k1
        go_wp2_with (at_builtin; refine wpList_app (by rfl) (.tmp 40) (.tmp 48) eRP.T eRP.T eRP.T rfl rfl _ _ rfl rfl (Sk.appG1 eRPok wr.heap.size rfl 0 rfl x _ (by rfl) N1 (by rw [HN1.out]; exact HNN.out) (by show _ * 48 ≤ _; omega) (by unfold maxLen; omega)) ?_; rintro v3 w3 ⟨⟨a3, c3, rfl⟩, S3⟩)
        go_roundw
        case rel => exact ⟨k + 1, N1, a3, c3, by omega, rfl, by go_num, by rw [HS2.out]; exact S3⟩
        case measure => simp [intOf]; omega
end

end Go.Proofs.Ytiilhfmmclhflaa
