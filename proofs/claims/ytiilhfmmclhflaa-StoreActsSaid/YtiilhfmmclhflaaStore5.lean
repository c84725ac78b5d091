/- Stores: New; what a store's numbers are. -/
import Derived.Test.YtiilhfmmclhflaaStore4
namespace Go.Proofs.Ytiilhfmmclhflaa
set_option linter.unusedVariables false
set_option linter.unusedSimpArgs false
open Go.RowKit
section
variable {w0 w : World} {r : List Thing} {g : Nat} {s : SS}
theorem St.storeNew (S : St w0 w r) (room : Int) (cs : Array Value) (hc : cs.toList = stC (SS.new room) (List.replicate 25 Sh.zero)) :
    St w0 (w.alloc (.cells cs 82)) (r ++ [storeT w.heap.size (SS.new room)]) := by
  refine S.push ((Below.refl _ _).alloc (Nat.le_refl _) _) (F := fun b => b = w.heap.size) ⟨List.replicate 25 Sh.zero, S.size, ?_, rfl, by simp, by rw [List.map_replicate]; rfl, ?_, ?_, ?_⟩ (fun b hb => by subst hb; exact Nat.le_refl _)
  · have := heap_alloc_new w (.cells cs 82)
    rw [← hc]; simpa using this
  · intro x hx
    rw [List.eq_of_mem_replicate hx]
    exact ⟨BS.Lie.zero _ _ _, BS.Lie.zero _ _ _⟩
  · intro x hx
    rw [List.eq_of_mem_replicate hx]
    exact ⟨by decide, by decide⟩
  · intro b hb
    subst hb
    exact ⟨S.size, by show _ < (Array.push _ _).size; simp⟩
theorem stZero : Try.zeroCells82.toList = stC (SS.new 0) (List.replicate 25 Sh.zero) := by kernel_rfl
theorem stZero_set (room : Int) (M : Int) (h : max 0 room = M) : (Try.zeroCells82.setIfInBounds 0 (.int .i64 M)).toList = stC (SS.new room) (List.replicate 25 Sh.zero) := by
  rw [Array.toList_setIfInBounds, stZero, ← h]; rfl
set_option maxRecDepth 100000 in
set_option maxHeartbeats 1600000 in
theorem stNew_any (S : St w0 w r) (room : Int) :
    Calls Try.prog 14 #[.int .i64 room] w fun e w' => e = .returned (.pointer (some ⟨w.heap.size, 0, none⟩)) ∧ St w0 w' (r ++ [storeT w.heap.size (SS.new room)]) := by
  by_cases h : 0 ≤ room
  · have S2 := hid (S.storeNew room _ (stZero_set room room (by omega)))
    go_enter Try.func14, Try.ntmps14
    go_wp2
    all_goals (
      go_ret
      refine ⟨rfl, ?_⟩
      first | exact S2.out | (have e0 : room = 0 := by omega
                              have := S2.out
                              rw [e0] at this ⊢
                              exact this))
  · have S2 := hid (S.storeNew room _ (stZero_set room 0 (by omega)))
    go_enter Try.func14, Try.ntmps14
    go_wp2
    all_goals (first | (exfalso; omega) | (go_ret; exact ⟨rfl, S2.out⟩))
/-- How a store may be. -/
structure SS.Ok (s : SS) : Prop where
  len : s.js.length = 25
  small : ∀ x ∈ s.js, x.cd.length ≤ 100 ∧ x.sd.length ≤ 100
theorem St.storeOk (S : St w0 w r) (k : Nat) (hk : r[k]? = some (storeT g s)) : s.Ok := by
  obtain ⟨F, l, I⟩ := S.head k hk
  refine ⟨by rw [← I.ps, List.length_map, I.len], fun x hx => ?_⟩
  rw [← I.ps] at hx
  obtain ⟨y, hy, rfl⟩ := List.mem_map.1 hx
  have h1 := (I.data y hy).1.hd.len
  have h2 := (I.data y hy).2.hd.len
  have := I.small y hy
  show y.d1.l.length ≤ 100 ∧ y.d2.l.length ≤ 100
  omega
end

end Go.Proofs.Ytiilhfmmclhflaa
