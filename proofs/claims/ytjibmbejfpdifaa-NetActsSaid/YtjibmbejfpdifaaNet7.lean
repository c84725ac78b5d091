/- Messages on their way: List. -/
import Derived.Test.YtjibmbejfpdifaaNet6
namespace Go.Proofs.Ytjibmbejfpdifaa
set_option linter.unusedVariables false
set_option linter.unusedSimpArgs false
open Go.RowKit
/-- Messages as elements. -/
def eM : Elt Msg := { T := 38, E := 23, s := 11, byt := 88, z := .agg #[.int .i64 0, .int .i64 0, .int .i64 0, .int .i64 0, .int .i64 0, .int .i64 0, .int .i64 0, .int .i64 0, .int .i64 0, .int .i64 0, .int .i64 0], enc := Msg.cs }
theorem eMok : eM.Ok := ⟨fun _ => rfl, fun x u hu => by
  simp only [eM, Msg.cs, List.mem_cons, List.not_mem_nil, or_false] at hu
  rcases hu with rfl | rfl | rfl | rfl | rfl | rfl | rfl | rfl | rfl | rfl | rfl <;> rfl, by decide, by kernel_rfl, by kernel_rfl, by rfl⟩
section
variable {w0 w : World} {tl : List Thing} {g : Nat} {a : Option Addr} {c : Nat} {pcs : List Pc} {sent : Nat}
/-- The messages of the first `k` pieces. -/
def msgsOf (pcs : List Pc) (k : Nat) : List Msg := (pcs.take k).filterMap fun x => getM x.b
theorem msgsOf_len (pcs : List Pc) (k : Nat) : (msgsOf pcs k).length ≤ k := by
  refine Nat.le_trans (List.length_filterMap_le _ _) ?_
  rw [List.length_take]; omega
theorem msgsOf_step {pcs : List Pc} {k : Nat} (hk : k < pcs.length) : msgsOf pcs (k + 1) = msgsOf pcs k ++ (getM pcs[k].b).toList := by
  unfold msgsOf
  rw [List.take_succ_eq_append_getElem hk, List.filterMap_append]
  cases h : getM pcs[k].b <;> simp [h]
set_option maxRecDepth 10000 in
set_option maxHeartbeats 3200000 in
theorem netList_any (S : St w0 w (netL g a c pcs sent tl)) (hl : pcs.length ≤ 40) (hb : ∀ x ∈ pcs, x.n ≤ 1000000) :
    Calls Try.prog 28 #[.pointer (some ⟨g, 0, none⟩)] w fun e w' => ∃ a' c', e = .returned (.slice a' (msgsOf pcs pcs.length).length c') ∧ St w0 w' (ownT eM (.slice a' (msgsOf pcs pcs.length).length c') (msgsOf pcs pcs.length) :: netL g a c pcs sent tl) := by
  have S0 := (S.nilG eM).rot
  have c0 := S.cell 0 rfl 0 rfl
  go_enter Try.func28, Try.ntmps28
  go_wp2_with fail
  go_loopw [3, 15] (fun v i wr => ∃ (k : Nat) (a1 : Option Addr) (c1 : Nat), k ≤ pcs.length ∧ v = .slice a1 (msgsOf pcs k).length c1 ∧ i = .int .i64 k ∧ St w0 wr (ownT eM (.slice a1 (msgsOf pcs k).length c1) (msgsOf pcs k) :: netL g a c pcs sent tl)) (fun _ i _ => pcs.length - (intOf i).toNat)
  case atStart => exact ⟨0, none, 0, Nat.zero_le _, rfl, rfl, S0⟩
  case round =>
    obtain ⟨k, a1, c1, hk, rfl, rfl, Sk⟩ := hrel
    clear c0
    by_cases hlt : k < pcs.length
    case neg =>
      have g0 : decide ((k : Int) < (pcs.length : Int)) = false := decide_eq_false (by omega)
      have g0n : decide (k < pcs.length) = false := decide_eq_false (by omega)
      have e : Hid (k = pcs.length) := by rw [Hid]; omega
      clear hlt hk
      go_wp2
      go_ret
      refine ⟨a1, c1, ?_, ?_⟩
      · rw [e.out]; rfl
      · have := Sk; rw [e.out] at this; exact this
    have g0 : decide ((k : Int) < (pcs.length : Int)) = true := decide_eq_true (by omega)
    have g0n : decide (k < pcs.length) = true := decide_eq_true (by omega)
    obtain ⟨ga, ha⟩ := pcs_at S (by omega)
    subst ha
    have i0 := fun wx => idxPc ga pcs.length c k hlt wx
    obtain ⟨-, x0, x1⟩ := Sk.tail.pc hlt
    have hn := hb pcs[k] (List.getElem_mem hlt)
    have HPc : Hid ((netL g (some ⟨ga, 0, none⟩) c pcs sent tl)[2 + k]? = some (pcT pcs[k])) := netL_pc hlt
    have HSt := hid (msgsOf_step hlt)
    have hml := msgsOf_len pcs k
    obtain ⟨x, hx⟩ : ∃ x, pcs[k] = x := ⟨_, rfl⟩
    rw [hx] at x0 x1 hn HPc HSt
    have hsl := (Sk.tail.alloc (.cells #[.slice x.a x.n x.c, .bool x.t] 98)).slA (2 + k) HPc.out
    have HB := hid hb
    clear hx hb
    go_wp2_with fail
    refine (netGet_any x.a x.b x.n x.c _ hsl.1 hn hsl.2.1 (by exact hsl.2.2.2.2)).mono ?_
    rintro e w1 ⟨hpost, hb1⟩
    have S1 := (Sk.alloc _).grow hb1
    obtain ⟨O, hO⟩ : ∃ O, getM x.b = O := ⟨_, rfl⟩
    rw [hO] at hpost HSt
    clear hO hb1 hsl x0 x1 i0
    rcases O with _ | m
    · simp only [GetMPost] at hpost
      subst hpost
      go_wp2
      go_roundw
      case rel => exact ⟨k + 1, a1, c1, by omega, by rw [HSt.out]; simp, by go_num, by rw [HSt.out]; simpa using S1.alloc _⟩
      case measure => simp [intOf]; omega
    · simp only [GetMPost] at hpost
      subst hpost
      have S2 := S1.alloc (.cells #[.int .i64 m.node, .int .i64 m.kind, .int .i64 m.term, .int .i64 m.gen, .int .i64 m.job, .int .i64 m.inc, .int .i64 m.version, .int .i64 m.epoch, .int .i64 m.until_, .int .i64 m.mode, .int .i64 m.work] 23)
      obtain ⟨N, hN⟩ : ∃ N, (msgsOf pcs k).length + 1 = N := ⟨_, rfl⟩
      have HN := hid hN
      go_wp2_with (at_builtin; refine wpList_app (by rfl) (.tmp 26) (.tmp 28) eM.T eM.T eM.T rfl rfl _ _ rfl rfl (S2.appG1 eMok (w1.heap.size + 1) (by show _ = (Array.push _ _).size; simp) 0 rfl m _ (by rfl) N HN.out (by show _ * 88 ≤ _; omega) (by unfold maxLen; omega)) ?_; rintro v3 w3 ⟨⟨a3, c3, rfl⟩, S3⟩)
      go_roundw
      case rel => exact ⟨k + 1, a3, c3, by omega, by rw [HSt.out]; simp [HN.out], by go_num, by rw [HSt.out]; simpa [HN.out] using S3⟩
      case measure => simp [intOf]; omega
end

end Go.Proofs.Ytjibmbejfpdifaa
