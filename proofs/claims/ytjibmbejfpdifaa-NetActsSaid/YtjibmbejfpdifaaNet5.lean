/- Messages on their way: Drop, Deliver, Twice, Flip. -/
import Derived.Test.YtjibmbejfpdifaaNet4
namespace Go.Proofs.Ytjibmbejfpdifaa
set_option linter.unusedVariables false
set_option linter.unusedSimpArgs false
open Go.RowKit
section
variable {w0 w : World} {tl : List Thing} {g : Nat} {a : Option Addr} {c : Nat} {pcs : List Pc} {sent : Nat}
/-- What Drop leaves: the bytes that were lost lie behind. -/
def DropPost (w0 : World) (g : Nat) (a : Option Addr) (c : Nat) (pcs : List Pc) (sent : Nat) (tl : List Thing) (i : Int) (e : Ending) (w' : World) : Prop :=
  if h : 0 ≤ i ∧ i < (pcs.length : Int) then ∃ a' c', e = .returned (.bool true) ∧ St w0 w' (netL g a' c' (pcs.eraseIdx i.toNat) sent (pcT (pcs[i.toNat]'(by omega)) :: tl))
  else e = .returned (.bool false) ∧ St w0 w' (netL g a c pcs sent tl)
theorem perm_erase {α : Type} (l : List α) (k : Nat) (h : k < l.length) : l.Perm (l[k] :: l.eraseIdx k) := by
  have e : l.take k ++ l[k] :: l.drop (k + 1) = l := by rw [← List.drop_eq_getElem_cons h, List.take_append_drop]
  rw [List.eraseIdx_eq_take_drop_succ]
  refine List.Perm.trans (List.Perm.of_eq e.symm) List.perm_middle
theorem has_no {i : Int} {n : Nat} (h : ¬ (0 ≤ i ∧ i < (n : Int))) : (decide (0 ≤ i) && decide (i < (n : Int))) = false := by
  simp; omega
theorem has_yes {i : Int} {n : Nat} (h : 0 ≤ i ∧ i < (n : Int)) : (decide (0 ≤ i) && decide (i < (n : Int))) = true := by
  simp; omega
set_option maxRecDepth 10000 in
set_option maxHeartbeats 3200000 in
theorem netDrop_any (S : St w0 w (netL g a c pcs sent tl)) (hl : pcs.length ≤ 1000) (i : Int) :
    Calls Try.prog 23 #[.pointer (some ⟨g, 0, none⟩), .int .i64 i] w fun e w' => DropPost w0 g a c pcs sent tl i e w' := by
  by_cases hi : 0 ≤ i ∧ i < (pcs.length : Int)
  case neg =>
    have HE : Hid (∀ e w', e = .returned (.bool false) → St w0 w' (netL g a c pcs sent tl) → DropPost w0 g a c pcs sent tl i e w') := by
      intro e w' h1 h2; unfold DropPost; rw [dif_neg hi]; exact ⟨h1, h2⟩
    have g0 := hid (has_no hi)
    clear hi
    go_enter Try.func23, Try.ntmps23
    go_wp2_with fail
    refine (netHas_any S i).mono ?_
    rintro e w1 ⟨rfl, rfl⟩
    rw [g0.out]
    go_wp2
    go_ret
    exact HE.out _ _ rfl S
  obtain ⟨k, rfl⟩ : ∃ k : Nat, i = k := ⟨i.toNat, by omega⟩
  have hk : k < pcs.length := by omega
  have HE : Hid (∀ c e w' a' c', e = .returned (.bool true) → St w0 w' (netL g a' c' (pcs.eraseIdx k) sent (pcT pcs[k] :: tl)) → DropPost w0 g a c pcs sent tl k e w') := by
    intro c e w' a' c' h1 h2; unfold DropPost; rw [dif_pos hi]; exact ⟨a', c', h1, h2⟩
  have g0 := hid (has_yes hi)
  clear hi
  have c0 := S.cell 0 rfl 0 rfl
  obtain ⟨-, q1, q2, q3, q4, q5⟩ := S.slC ePcOk 1 rfl
  have t1 : IntKind.i64.wrap ((k : Int) + 1) = ((k + 1 : Nat) : Int) := by rw [IntKind.wrap_i64]; omega
  have k1 := fun wx => cutG_m ePcOk a pcs.length c k k k rfl rfl (by omega) wx
  have k2 := fun wx => cutG_l ePcOk a pcs.length c (k + 1) ((k + 1 : Nat) : Int) rfl (by omega) q1 wx
  rw [show ePc.T = 40 from rfl] at k1 k2
  have k3 : 0 ≤ (k : Int) + 1 ∧ (k : Int) + 1 ≤ (pcs.length : Int) := by omega
  go_enter Try.func23, Try.ntmps23
  go_wp2_with fail
  refine (netHas_any S k).mono ?_
  rintro e w1 ⟨rfl, rfl⟩
  rw [g0.out]
  have d0 := S.drew.cell 0 rfl 0 rfl
  go_wp2_with fail
  go_region_law (first
    | (refine step_app (by rfl) (.tmp 16) (.tmp 23) ePc.T ePc.T ePc.T rfl rfl _ _ rfl rfl (S.drew.cutC ePcOk 1 rfl hk (pcs.length - 1) rfl (by show _ * 32 ≤ _; omega)) ?_; rintro v6 w6 ⟨⟨a6, c6, rfl⟩, S6⟩; have f6 := S6.frozen 0 rfl 0; have d6 := S6.cell 0 rfl 0 rfl)
    | fail)
  all_goals (
    have S7 : St w0 _ (cellsT g 47 [.slice a6 (pcs.length - 1) c6, .int .i64 (sent : Int)] :: ownCT ePc (.slice a6 (pcs.length - 1) c6) (pcs.eraseIdx k) :: (pcs.map pcT ++ tl)) := S6.setCell 0 rfl 0 (.slice a6 (pcs.length - 1) c6)
    have S8 := hid (St.perm S7 (m := netL g a6 c6 (pcs.eraseIdx k) sent (pcT pcs[k] :: tl)) (by
      unfold netL
      rw [List.length_eraseIdx_of_lt hk]
      refine ((List.Perm.append_right tl ((perm_erase pcs k hk).map pcT)).trans ?_).cons _ |>.cons _
      exact List.perm_middle.symm))
    go_wp2
    all_goals (
      go_ret
      exact HE.out _ _ _ a6 c6 rfl S8.out))
/-- What Deliver tells. -/
def DelivPost (w0 : World) (g : Nat) (a : Option Addr) (c : Nat) (pcs : List Pc) (sent : Nat) (tl : List Thing) (i : Int) (e : Ending) (w' : World) : Prop :=
  if h : 0 ≤ i ∧ i < (pcs.length : Int) then ∃ a' c', GetMPost (getM (pcs[i.toNat]'(by omega)).b) e ∧ St w0 w' (netL g a' c' (pcs.eraseIdx i.toNat) sent tl)
  else GetMPost none e ∧ St w0 w' (netL g a c pcs sent tl)
theorem ePc_cells {w : World} {a : Option Addr} {l : List Pc} (h : AtG ePc w a l) {k : Nat} (hk : k < l.length) : w.cell? (adr a (k * 2)) = some (.slice l[k].a l[k].n l[k].c) ∧ w.cell? (adr a (k * 2 + 1)) = some (.bool l[k].t) :=
  ⟨(h k hk).2 0 (by decide), (h k hk).2 1 (by decide)⟩
theorem St.netFront {x : Thing} (S : St w0 w (netL g a c pcs sent (x :: tl))) : St w0 w (x :: netL g a c pcs sent tl) :=
  S.perm (List.perm_middle (l₁ := cellsT g 47 [.slice a pcs.length c, .int .i64 (sent : Int)] :: ownCT ePc (.slice a pcs.length c) pcs :: pcs.map pcT))
theorem St.netBack {x : Thing} (S : St w0 w (x :: netL g a c pcs sent tl)) : St w0 w (netL g a c pcs sent (x :: tl)) :=
  S.perm (List.perm_middle (l₁ := cellsT g 47 [.slice a pcs.length c, .int .i64 (sent : Int)] :: ownCT ePc (.slice a pcs.length c) pcs :: pcs.map pcT)).symm
theorem cutG_zero {α : Type} {e : Elt α} : True := trivial
theorem idxG2 {α : Type} {e : Elt α} (he : e.Ok) (a : Option Addr) (n cap : Nat) (hn : 0 < n → a.isSome = true) (k : Nat) (hk : k < n) (wx : World) :
    (Instr.indexAt e.T (.slice a n cap) (.int .i64 (k : Int))).run Try.prog wx = .ok (.pointer (some (adr a (k * e.s)))) wx := idxG he a n cap hn k k rfl hk wx
set_option maxRecDepth 10000 in
set_option maxHeartbeats 3200000 in
theorem netDeliver_any (S : St w0 w (netL g a c pcs sent tl)) (hl : pcs.length ≤ 1000) (hb : ∀ x ∈ pcs, x.n ≤ 1000000) (i : Int) :
    Calls Try.prog 21 #[.pointer (some ⟨g, 0, none⟩), .int .i64 i] w fun e w' => DelivPost w0 g a c pcs sent tl i e w' := by
  have S1 : St w0 (w.alloc (.cells #[.int .i64 0, .int .i64 0, .int .i64 0, .int .i64 0, .int .i64 0, .int .i64 0, .int .i64 0, .int .i64 0, .int .i64 0, .int .i64 0, .int .i64 0] 23)) (netL g a c pcs sent (cellsT w.heap.size 23 Msg.zero.cs :: tl)) := (S.newCells 23 #[.int .i64 0, .int .i64 0, .int .i64 0, .int .i64 0, .int .i64 0, .int .i64 0, .int .i64 0, .int .i64 0, .int .i64 0, .int .i64 0, .int .i64 0]).rot.netBack
  by_cases hi : 0 ≤ i ∧ i < (pcs.length : Int)
  case neg =>
    have HE : Hid (∀ e w', GetMPost none e → St w0 w' (netL g a c pcs sent tl) → DelivPost w0 g a c pcs sent tl i e w') := by
      intro e w' h1 h2; unfold DelivPost; rw [dif_neg hi]; exact ⟨h1, h2⟩
    have g0 := hid (has_no hi)
    clear hi
    go_enter Try.func21, Try.ntmps21
    go_wp2_with fail
    refine (netHas_any S1 i).mono ?_
    rintro e w1 ⟨rfl, rfl⟩
    rw [g0.out]
    have SZ := S1.netFront
    obtain ⟨f0, f1, f2, f3, f4, f5, f6, f7, f8, f9, f10⟩ := SZ.msgFrozen 0 rfl
    obtain ⟨z0, z1, z2, z3, z4, z5, z6, z7, z8, z9, z10⟩ := SZ.msg 0 rfl
    go_wp2
    refine bodyPost_ret (res_msg rfl _ _ w.heap.size #[.int .i64 0, .int .i64 0, .int .i64 0, .int .i64 0, .int .i64 0, .int .i64 0, .int .i64 0, .int .i64 0, .int .i64 0, .int .i64 0, .int .i64 0] rfl (by exact SZ.heap 0 rfl) rfl) rfl ?_
    refine HE.out _ _ ?_ ?_
    · rfl
    · exact SZ.tail
  obtain ⟨k, rfl⟩ : ∃ k : Nat, i = k := ⟨i.toNat, by omega⟩
  have hk : k < pcs.length := by omega
  have HE : Hid (∀ e w' a' c', GetMPost (getM pcs[k].b) e → St w0 w' (netL g a' c' (pcs.eraseIdx k) sent tl) → DelivPost w0 g a c pcs sent tl k e w') := by
    intro e w' a' c' h1 h2; unfold DelivPost; rw [dif_pos hi]; exact ⟨a', c', h1, h2⟩
  have HD : Hid (∀ e w' tl, DropPost w0 g a c pcs sent tl k e w' → ∃ a' c', e = .returned (.bool true) ∧ St w0 w' (netL g a' c' (pcs.eraseIdx k) sent (pcT pcs[k] :: tl))) := by
    intro e w' tl h; unfold DropPost at h; rw [dif_pos hi] at h; exact h
  have g0 := hid (has_yes hi)
  clear hi
  have c0 := S1.cell 0 rfl 0 rfl
  obtain ⟨-, q1, q2, q3, q4, q5⟩ := S1.slC ePcOk 1 rfl
  obtain ⟨x0, x1⟩ := ePc_cells q4 hk
  have hsome : 0 < pcs.length → a.isSome = true := fun h => q4.ok h
  have i0 := fun wx => idxG2 ePcOk a pcs.length c hsome k hk wx
  rw [show ePc.T = 40 from rfl, show ePc.s = 2 from rfl] at i0
  have hn := hb pcs[k] (List.getElem_mem hk)
  obtain ⟨x, hx⟩ : ∃ x, pcs[k] = x := ⟨_, rfl⟩
  rw [hx] at x0 x1 hn
  have HX := hid hx
  have HL := hid hl
  clear hb hx hl q1 q2 q3 q4 q5 hsome
  go_enter Try.func21, Try.ntmps21
  go_wp2_with fail
  refine (netHas_any S1 k).mono ?_
  rintro e w1 ⟨rfl, rfl⟩
  rw [g0.out]
  go_wp2_with fail
  refine (netDrop_any S1 HL.out k).mono ?_
  intro e w2 hpost
  obtain ⟨a', c', rfl, S2⟩ := HD.out _ _ _ hpost
  clear hpost
  rw [HX.out] at S2 HE
  have hsl := S2.netFront.slA 0 rfl
  clear x0 x1 i0 c0
  go_wp2_with fail
  refine (netGet_any x.a x.b x.n x.c w2 hsl.1 hn hsl.2.1 hsl.2.2.2.2).mono ?_
  rintro e w3 ⟨hpost, hb3⟩
  have SZ := (S2.netFront.grow hb3).tail.netFront
  clear hb3 S2 hsl
  obtain ⟨f0, f1, f2, f3, f4, f5, f6, f7, f8, f9, f10⟩ := SZ.msgFrozen 0 rfl
  obtain ⟨z0, z1, z2, z3, z4, z5, z6, z7, z8, z9, z10⟩ := SZ.msg 0 rfl
  obtain ⟨O, hO⟩ : ∃ O, getM x.b = O := ⟨_, rfl⟩
  rw [hO] at hpost HE
  clear hO
  rcases O with _ | m
  · simp only [GetMPost] at hpost
    subst hpost
    go_wp2
    have SX := SZ.setMsg (m' := Msg.zero)
    refine bodyPost_ret (res_msg rfl _ _ w.heap.size #[.int .i64 0, .int .i64 0, .int .i64 0, .int .i64 0, .int .i64 0, .int .i64 0, .int .i64 0, .int .i64 0, .int .i64 0, .int .i64 0, .int .i64 0] rfl (by exact SX.heap 0 rfl) rfl) rfl ?_
    refine HE.out _ _ a' c' ?_ ?_
    · rfl
    · exact SX.tail
  · simp only [GetMPost] at hpost
    subst hpost
    go_wp2
    have SX := SZ.setMsg (m' := m)
    refine bodyPost_ret (res_msg rfl _ _ w.heap.size #[.int .i64 m.node, .int .i64 m.kind, .int .i64 m.term, .int .i64 m.gen, .int .i64 m.job, .int .i64 m.inc, .int .i64 m.version, .int .i64 m.epoch, .int .i64 m.until_, .int .i64 m.mode, .int .i64 m.work] rfl (by exact SX.heap 0 rfl) rfl) rfl ?_
    refine HE.out _ _ a' c' ?_ ?_
    · rfl
    · exact SX.tail
end

end Go.Proofs.Ytjibmbejfpdifaa
