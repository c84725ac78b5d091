/- Wish: orders alike; what a job had worked. -/
import Derived.Test.YtjfbmgndekfglaaDoorStates
import Derived.Test.YtjfbmgndekfglaaDoorStoreOpt
import Derived.Test.YtjfbmgndekfglaaDoorBits
import Derived.Laws.ResultCell
import Derived.Lib.ConvBytes
import Derived.Laws.AppendOwn
namespace Go.Proofs.YtjfbmgndekfglaaDoor
set_option linter.unusedVariables false
set_option linter.unusedSimpArgs false
open Go.RowKit
def mBare (m : Msg) : Msg := { m with term := 0, gen := 0, until_ := 0 }
theorem heap2w (w : World) (o : Obj) (cs : Array Value) (T : TypeId) : ((w.alloc o).alloc (.cells cs T)).heap[w.heap.size + 1]? = some (.cells cs T (0, 0)) := by
  have := heap_alloc_new (w.alloc o) (.cells cs T)
  rwa [show (w.alloc o).heap.size = w.heap.size + 1 from by show (Array.push _ _).size = _; simp] at this
def wAlike (a b : Msg) : Bool := (mBare a).eq (mBare b)
def STA.meant (s : STA) : Int := if s.mode = 2 then s.prior else s.goal
set_option maxRecDepth 10000 in
set_option maxHeartbeats 1600000 in
theorem wMeant (s : STA) (w : World) : Calls Tryd.prog 11 #[.agg #[.slice s.na s.nn s.nc, .slice s.ja s.jn s.jc, .int .i64 s.goal, .int .i64 s.prior, .int .i64 s.mode, .int .i64 s.term]] w fun e w' => e = .returned (.int .i64 s.meant) ∧ Below w.heap.size w w' := by
  have hb := ((St.start w).alloc (.cells #[.slice s.na s.nn s.nc, .slice s.ja s.jn s.jc, .int .i64 s.goal, .int .i64 s.prior, .int .i64 s.mode, .int .i64 s.term] 27)).fin
  by_cases h : s.mode = 2
  · have g : (s.mode == 2) = true := by simpa using h
    have E : Hid (s.meant = s.prior) := if_pos h
    clear h
    go_enter Tryd.func11, Tryd.ntmps11
    go_wp2
    go_ret
    exact ⟨by rw [E.out]; rfl, hb⟩
  · have g : (s.mode == 2) = false := by simpa using h
    have E : Hid (s.meant = s.goal) := if_neg h
    clear h
    go_enter Tryd.func11, Tryd.ntmps11
    go_wp2
    go_ret
    exact ⟨by rw [E.out]; rfl, hb⟩
def JB.writes (j : JB) (node : Int) : Int := if (lowB j.nodes.toNat : Int) = node then 1 else 0
theorem conv_sb (w : World) (l : List UInt8) : ∃ c w', (convert 9 70 (.string ⟨l.toArray⟩)).run Tryd.prog w = .ok (.slice (some ⟨w.heap.size, 0, none⟩) l.length c) w' ∧ Below w.heap.size w w' ∧ At w' (some ⟨w.heap.size, 0, none⟩) l ∧ l.length ≤ c := by
  have h := Go.Lib.run_convert_string_bytes (P := Tryd.prog) w 9 70 5 ⟨l.toArray⟩ Tryd.underlying9 sliceB u8T
  have hs : (⟨l.toArray⟩ : ByteArray).size = l.length := by simp [ByteArray.size]
  rw [hs] at h
  refine ⟨_, _, h, ⟨rfl, rfl, rfl, ?_, fun k hk => Go.Lib.bytesWorld_at_old _ _ _ k hk⟩, ?_, grownCap_ge _ _ _ _⟩
  · rw [Go.Lib.bytesWorld_size]; omega
  · intro k hk
    refine ⟨rfl, ?_⟩
    have := Go.Lib.bytesWorld_cell w 5 ⟨l.toArray⟩ k (by rw [hs]; exact hk)
    rw [show adr (some ⟨w.heap.size, 0, none⟩) k = ⟨w.heap.size, k, none⟩ by simp [adr, Addr.add_lit]]
    simpa [hk] using this
theorem sGet_small {s : SS} (h : s.Ok) (job ep : Int) : ((sGet s job ep).getD []).length ≤ 100 := by
  unfold sGet
  have hj : jobOk job → (s.job job).cd.length ≤ 100 ∧ (s.job job).sd.length ≤ 100 := by
    intro hj
    unfold SS.job
    rw [List.getD]
    cases hx : s.js[job.toNat]? with
    | none => simp [PS.nil]
    | some x => exact h.small x (List.mem_of_getElem? hx)
  split
  · simp
  · rename_i h1
    have := hj (by by_cases h : jobOk job; exact h; exact absurd (.inl h) h1)
    split
    · simp; omega
    · split
      · simp; omega
      · simp
theorem getText_len {l t : List UInt8} {e : Nat} (h : getText l 0 = some (t, e)) : t.length ≤ l.length := by
  unfold getText at h
  cases hg : getNum l 0 with
  | none => rw [hg] at h; cases h
  | some p =>
    rw [hg] at h
    simp at h
    obtain ⟨h1, h2, h3⟩ := h
    rw [← h2]
    simp
    omega
def wHadD (d : List UInt8) : Int :=
  match getText d 0 with
  | none => 0
  | some (t, e) => if e = d.length then (match getNum t 0 with | none => 0 | some (n, x) => if x = t.length then min 1000 (n : Int) else 0) else 0
def wHad (s : STA) (job : Int) (o : Option SS) : Int :=
  if job < 1 ∨ (s.jn : Int) < job then 0 else
  match s.J[(job - 1).toNat]? with
  | none => 0
  | some j => if j.epoch = 0 then 0 else wHadD ((oGet o job j.epoch).getD [])
section
variable {w0 w : World} {r : List Thing} {k : Nat} {sv : Value} {o : Option SS}
end
end Go.Proofs.YtjfbmgndekfglaaDoor
