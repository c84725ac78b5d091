/- Messages on their way: Net's walks. -/
import Derived.Test.YtjibmbejfpdifaaNet3
import Derived.Test.YtjibmbejfpdifaaOwnC
namespace Go.Proofs.Ytjibmbejfpdifaa
set_option linter.unusedVariables false
set_option linter.unusedSimpArgs false
open Go.RowKit

/-- A message's bytes on their way. -/
structure Pc where
  a : Option Addr
  n : Nat
  c : Nat
  b : List UInt8
  t : Bool
def ePc : Elt Pc := { T := 40, E := 98, s := 2, byt := 32, z := .agg #[.slice none 0 0, .bool false], enc := fun x => [.slice x.a x.n x.c, .bool x.t] }
theorem ePcOk : ePc.Ok := ⟨fun _ => rfl, fun x u hu => by simp [ePc] at hu; rcases hu with rfl | rfl <;> rfl, by decide, by kernel_rfl, by kernel_rfl, by rfl⟩
def pcT (x : Pc) : Thing := bytesT (.slice x.a x.n x.c) x.b
/-- A net's cells, its pieces, the bytes of each. -/
def netL (g : Nat) (a : Option Addr) (c : Nat) (pcs : List Pc) (sent : Nat) (tl : List Thing) : List Thing :=
  cellsT g 47 [.slice a pcs.length c, .int .i64 (sent : Int)] :: ownCT ePc (.slice a pcs.length c) pcs :: (pcs.map pcT ++ tl)
theorem netL_pc {g : Nat} {a : Option Addr} {c : Nat} {pcs : List Pc} {sent : Nat} {tl : List Thing} {i : Nat} (h : i < pcs.length) : (netL g a c pcs sent tl)[2 + i]? = some (pcT pcs[i]) := by
  rw [Nat.add_comm]
  show (pcs.map pcT ++ tl)[i]? = _
  rw [List.getElem?_append_left (by rw [List.length_map]; exact h), List.getElem?_map, List.getElem?_eq_getElem h]; rfl
section
variable {w0 w : World} {tl : List Thing} {g : Nat} {a : Option Addr} {c : Nat} {pcs : List Pc} {sent : Nat}
set_option maxRecDepth 10000 in
theorem netHas_any (S : St w0 w (netL g a c pcs sent tl)) (i : Int) :
    Calls Try.prog 67 #[.pointer (some ⟨g, 0, none⟩), .int .i64 i] w fun e w' => e = .returned (.bool (decide (0 ≤ i) && decide (i < (pcs.length : Int)))) ∧ w = w' := by
  have c0 := S.cell 0 rfl 0 rfl
  go_enter Try.func67, Try.ntmps67
  by_cases h0 : 0 ≤ i
  · have g0 : decide (0 ≤ i) = true := decide_eq_true h0
    go_wp2
    go_ret
    exact ⟨by simp [h0], rfl⟩
  · have g0 : decide (0 ≤ i) = false := decide_eq_false h0
    go_wp2
    go_ret
    exact ⟨by simp [h0], rfl⟩
theorem netLen_any (S : St w0 w (netL g a c pcs sent tl)) :
    Calls Try.prog 26 #[.pointer (some ⟨g, 0, none⟩)] w fun e w' => e = .returned (.int .i64 (pcs.length : Int)) ∧ w = w' := by
  have c0 := S.cell 0 rfl 0 rfl
  go_enter Try.func26, Try.ntmps26
  go_wp2
  go_ret
  exact ⟨rfl, rfl⟩
theorem netSent_any (S : St w0 w (netL g a c pcs sent tl)) :
    Calls Try.prog 27 #[.pointer (some ⟨g, 0, none⟩)] w fun e w' => e = .returned (.int .i64 (sent : Int)) ∧ w = w' := by
  have hl := run_call_load (P := Try.prog) Try.func106 (by kernel_rfl) (by kernel_rfl) (by kernel_rfl) .i64 (by kernel_rfl) (S.cell 0 rfl 1 rfl)
  have HL : Calls Try.prog 70 #[.pointer (some ⟨g, 1, none⟩)] w fun e w' => e = .returned (.int .i64 (sent : Int)) ∧ w' = w := by
    go_enter Try.func70, Try.ntmps70
    go_wp2
    go_ret
    exact ⟨rfl, rfl⟩
  go_enter Try.func27, Try.ntmps27
  go_wp2_with fail
  refine HL.mono ?_
  rintro e w' ⟨rfl, rfl⟩
  go_wp2
  go_ret
  exact ⟨rfl, rfl⟩
theorem addAt_any {w : World} {g k : Nat} {x : Nat} (h : w.cell? ⟨g, k, none⟩ = some (.int .i64 x)) (hf : w.frozen? ⟨g, k, none⟩ = false) (hx : x < 9223372036854775807) :
    Calls Try.prog 68 #[.pointer (some ⟨g, k, none⟩), .int .i64 1] w fun e w' => e = .returned (.int .i64 ((x + 1 : Nat) : Int)) ∧ w' = w.setCell ⟨g, k, none⟩ (.int .i64 ((x + 1 : Nat) : Int)) := by
  have hl := run_call_add (P := Try.prog) Try.func105 (by kernel_rfl) (by kernel_rfl) (by kernel_rfl) .i64 (by kernel_rfl) (y := 1) (s := ((x + 1 : Nat) : Int)) h hf (by
    have : IntKind.i64.wrap ((x : Int) + 1) = ((x + 1 : Nat) : Int) := by rw [IntKind.wrap_i64]; omega
    simp [go_sem, this])
  go_enter Try.func68, Try.ntmps68
  go_wp2
  go_ret
  exact ⟨rfl, rfl⟩
theorem St.netTl {x : Thing} (S : St w0 w (netL g a c pcs sent tl ++ [x])) : St w0 w (netL g a c pcs sent (tl ++ [x])) := St.conv S (by simp [netL])
theorem St.netCut {x : Thing} (S : St w0 w (netL g a c pcs sent (tl ++ [x]))) : St w0 w (netL g a c pcs sent tl) := (St.conv S (m := netL g a c pcs sent tl ++ [x]) (by simp [netL])).init
/-- What Send leaves. -/
def SendPost (w0 : World) (g : Nat) (a : Option Addr) (c : Nat) (pcs : List Pc) (sent : Nat) (tl : List Thing) (m : Msg) (e : Ending) (w' : World) : Prop :=
  if pcs.length < 40 ∧ m.right = true then ∃ a' c' x, e = .returned (.bool true) ∧ x.b = putM m ∧ x.t = false ∧ x.b.length = x.n ∧ St w0 w' (netL g a' c' (pcs ++ [x]) (sent + 1) tl)
  else e = .returned (.bool false) ∧ St w0 w' (netL g a c pcs sent tl)
set_option maxRecDepth 10000 in
set_option maxHeartbeats 3200000 in
theorem netSend_any (S : St w0 w (netL g a c pcs sent tl)) (hs : sent ≤ 1000000) (m : Msg) :
    Calls Try.prog 22 #[.pointer (some ⟨g, 0, none⟩), .agg #[.int .i64 m.node, .int .i64 m.kind, .int .i64 m.term, .int .i64 m.gen, .int .i64 m.job, .int .i64 m.inc, .int .i64 m.version, .int .i64 m.epoch, .int .i64 m.until_, .int .i64 m.mode, .int .i64 m.work]] w fun e w' => SendPost w0 g a c pcs sent tl m e w' := by
  have S1 : St w0 (w.alloc (.cells #[.int .i64 m.node, .int .i64 m.kind, .int .i64 m.term, .int .i64 m.gen, .int .i64 m.job, .int .i64 m.inc, .int .i64 m.version, .int .i64 m.epoch, .int .i64 m.until_, .int .i64 m.mode, .int .i64 m.work] 23)) (cellsT w.heap.size 23 m.cs :: netL g a c pcs sent tl) := (S.newCells 23 #[.int .i64 m.node, .int .i64 m.kind, .int .i64 m.term, .int .i64 m.gen, .int .i64 m.job, .int .i64 m.inc, .int .i64 m.version, .int .i64 m.epoch, .int .i64 m.until_, .int .i64 m.mode, .int .i64 m.work]).rot
  have c1 := S1.cell 1 rfl 0 rfl
  obtain ⟨z0, z1, z2, z3, z4, z5, z6, z7, z8, z9, z10⟩ := S1.msg 0 rfl
  by_cases h40 : 40 ≤ pcs.length
  · have g1 : decide ((40 : Int) ≤ (pcs.length : Int)) = true := decide_eq_true (by omega)
    have g1n : decide (40 ≤ pcs.length) = true := decide_eq_true h40
    have HE : Hid (∀ e w', e = .returned (.bool false) → St w0 w' (netL g a c pcs sent tl) → SendPost w0 g a c pcs sent tl m e w') := by
      intro e w' h1 h2; unfold SendPost; rw [if_neg (by omega)]; exact ⟨h1, h2⟩
    clear h40
    go_enter Try.func22, Try.ntmps22
    go_wp2
    go_ret
    exact HE.out _ _ rfl S1.tail
  have g1 : decide ((40 : Int) ≤ (pcs.length : Int)) = false := decide_eq_false (by omega)
  have g1n : decide (40 ≤ pcs.length) = false := decide_eq_false h40
  by_cases hr : m.right = true
  case neg =>
    have HE : Hid (∀ e w', e = .returned (.bool false) → St w0 w' (netL g a c pcs sent tl) → SendPost w0 g a c pcs sent tl m e w') := by
      intro e w' h1 h2; unfold SendPost; rw [if_neg (fun h => hr h.2)]; exact ⟨h1, h2⟩
    have HR : Hid (m.right = false) := by rw [Hid]; simpa using hr
    clear h40 hr
    go_enter Try.func22, Try.ntmps22
    go_wp2_with fail
    refine (right_any m _).mono ?_
    rintro e w1 ⟨rfl, hb1⟩
    rw [HR.out]
    have S2 := S1.grow hb1
    clear hb1
    go_wp2
    go_ret
    exact HE.out _ _ rfl S2.tail
  have HE : Hid (∀ e w' a' c' x, e = .returned (.bool true) → x.b = putM m → x.t = false → x.b.length = x.n → St w0 w' (netL g a' c' (pcs ++ [x]) (sent + 1) tl) → SendPost w0 g a c pcs sent tl m e w') := by
    intro e w' a' c' x h1 h2 h3 h4 h5; unfold SendPost; rw [if_pos ⟨by omega, hr⟩]; exact ⟨a', c', x, h1, h2, h3, h4, h5⟩
  have HR := hid hr
  have hpl : pcs.length < 40 := by omega
  clear h40 hr
  go_enter Try.func22, Try.ntmps22
  go_wp2_with fail
  refine (right_any m _).mono ?_
  rintro e w1 ⟨rfl, hb1⟩
  rw [HR.out]
  have S2 := S1.grow hb1
  clear hb1 z0 z1 z2 z3 z4 z5 z6 z7 z8 z9 z10 c1
  obtain ⟨z0, z1, z2, z3, z4, z5, z6, z7, z8, z9, z10⟩ := S2.drew.msg 0 rfl
  have c1 := S2.drew.cell 1 rfl 0 rfl
  go_wp2_with fail
  go_region_law (first
    | (go_simp; go_at_call 19; refine (netPut_any m _).mono ?_; rintro e w2 ⟨a2, c2, rfl, ho2, hb2⟩; have S3 := (S2.drew.bytes ho2 hb2).rot; have d1 := S3.cell 2 rfl 0 rfl; have da : ∀ o : Obj, (w2.alloc o).cell? ⟨g, 0, none⟩ = _ := fun o => (S3.alloc o).cell 2 rfl 0 rfl)
    | (refine step_app (by rfl) (.tmp 24) (.tmp 28) ePc.T ePc.T ePc.T rfl rfl _ _ rfl rfl (S3.appC1 ePcOk w2.heap.size rfl 3 rfl ⟨a2, (putM m).length, c2, putM m, false⟩ _ (by rfl) (pcs.length + 1) rfl (by show _ * 32 ≤ _; omega) (by unfold maxLen; omega)) ?_; rintro v6 w6 ⟨⟨a6, c6, rfl⟩, S6⟩; have f6 := S6.frozen 2 rfl 0; have d6 := S6.cell 2 rfl 0 rfl)
    | fail)
  all_goals (
    have S7 : St w0 _ (bytesT (.slice a2 (putM m).length c2) (putM m) :: cellsT w.heap.size 23 m.cs :: cellsT g 47 [.slice a6 (pcs.length + 1) c6, .int .i64 (sent : Int)] :: ownCT ePc (.slice a6 (pcs.length + 1) c6) (pcs ++ [⟨a2, (putM m).length, c2, putM m, false⟩]) :: (pcs.map pcT ++ tl)) := S6.setCell 2 rfl 0 (.slice a6 (pcs.length + 1) c6)
    go_wp2_with fail
    refine (addAt_any (by exact S7.cell 2 rfl 1 rfl) (by exact S7.frozen 2 rfl 1) (by omega)).mono ?_
    rintro e w8 ⟨rfl, rfl⟩
    go_wp2
    go_ret
    refine HE.out _ _ a6 c6 ⟨a2, (putM m).length, c2, putM m, false⟩ rfl rfl rfl rfl ?_
    have S9 := ((S7.setCell 2 rfl 1 (.int .i64 ((sent + 1 : Nat) : Int))).front 1 rfl).tail
    refine (St.perm S9 (m := netL g a6 c6 (pcs ++ [⟨a2, (putM m).length, c2, putM m, false⟩]) (sent + 1) tl) ?_)
    unfold netL
    rw [List.map_append, List.append_assoc, List.length_append]
    exact ((List.perm_middle (a := pcT ⟨a2, (putM m).length, c2, putM m, false⟩) (l₁ := cellsT g 47 [.slice a6 (pcs.length + 1) c6, .int .i64 ((sent + 1 : Nat) : Int)] :: ownCT ePc (.slice a6 (pcs.length + 1) c6) (pcs ++ [⟨a2, (putM m).length, c2, putM m, false⟩]) :: pcs.map pcT) (l₂ := tl)).symm))
end

end Go.Proofs.Ytjibmbejfpdifaa
