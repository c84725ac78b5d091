/- Wish: orders alike; what a job had worked. -/
import Derived.Test.YtilobmefomoemaaDoorStates
import Derived.Test.YtilobmefomoemaaDoorStoreOpt
import Derived.Test.YtilobmefomoemaaDoorBits
import Derived.Laws.ResultCell
import Derived.Lib.ConvBytes
import Derived.Laws.AppendOwn
namespace Go.Proofs.YtilobmefomoemaaDoor
set_option linter.unusedVariables false
set_option linter.unusedSimpArgs false
open Go.RowKit
def mBare (m : Msg) : Msg := { m with term := 0, gen := 0, until_ := 0 }
theorem res_msgW {fn : Func} {p : Tmp} (h : fn.results = #[.cell p 23]) (tmps : Array Value) (w : World) (g : Nat) (cs : Array Value) (hp : tmps.getD p undef = .pointer (some ⟨g, 0, none⟩)) (hg : w.heap[g]? = some (.cells cs 23 (0, 0))) (hs : cs.size = 11) :
    (results fn tmps).run Tryd.prog w = .ok (.agg cs) w := by
  have hi : (Tryd.prog.info? 23).map (·.size) = some 11 := by kernel_rfl
  exact results_cell_row h tmps w g 23 cs (0, 0) _ hp hg Tryd.underlying23 rfl (by rw [hi, hs])
theorem heap2w (w : World) (o : Obj) (cs : Array Value) (T : TypeId) : ((w.alloc o).alloc (.cells cs T)).heap[w.heap.size + 1]? = some (.cells cs T (0, 0)) := by
  have := heap_alloc_new (w.alloc o) (.cells cs T)
  rwa [show (w.alloc o).heap.size = w.heap.size + 1 from by show (Array.push _ _).size = _; simp] at this
set_option maxRecDepth 10000 in
set_option maxHeartbeats 1600000 in
theorem wBare (m : Msg) (w : World) : Calls Tryd.prog 26 #[.agg #[.int .i64 m.node, .int .i64 m.kind, .int .i64 m.term, .int .i64 m.gen, .int .i64 m.job, .int .i64 m.inc, .int .i64 m.version, .int .i64 m.epoch, .int .i64 m.until_, .int .i64 m.mode, .int .i64 m.work]] w fun e w' => e = .returned (.agg (mBare m).cs.toArray) ∧ Below w.heap.size w w' := by
  go_enter Tryd.func26, Tryd.ntmps26
  go_wp2
  exact bodyPost_ret (res_msgW rfl _ _ (w.heap.size + 1) _ rfl (heap2w _ _ _ _) rfl) rfl ⟨rfl, (((St.start w).alloc _).alloc _).fin⟩
def wAlike (a b : Msg) : Bool := (mBare a).eq (mBare b)
set_option maxRecDepth 10000 in
set_option maxHeartbeats 1600000 in
theorem wAlike_any (a b : Msg) (w : World) : Calls Tryd.prog 10 #[.agg #[.int .i64 a.node, .int .i64 a.kind, .int .i64 a.term, .int .i64 a.gen, .int .i64 a.job, .int .i64 a.inc, .int .i64 a.version, .int .i64 a.epoch, .int .i64 a.until_, .int .i64 a.mode, .int .i64 a.work], .agg #[.int .i64 b.node, .int .i64 b.kind, .int .i64 b.term, .int .i64 b.gen, .int .i64 b.job, .int .i64 b.inc, .int .i64 b.version, .int .i64 b.epoch, .int .i64 b.until_, .int .i64 b.mode, .int .i64 b.work]] w fun e w' => e = .returned (.bool (wAlike a b)) ∧ Below w.heap.size w w' := by
  have S1 : St w (w.alloc (.cells #[.int .i64 a.node, .int .i64 a.kind, .int .i64 a.term, .int .i64 a.gen, .int .i64 a.job, .int .i64 a.inc, .int .i64 a.version, .int .i64 a.epoch, .int .i64 a.until_, .int .i64 a.mode, .int .i64 a.work] 23)) [cellsT w.heap.size 23 a.cs] := (St.start w).newCells 23 #[.int .i64 a.node, .int .i64 a.kind, .int .i64 a.term, .int .i64 a.gen, .int .i64 a.job, .int .i64 a.inc, .int .i64 a.version, .int .i64 a.epoch, .int .i64 a.until_, .int .i64 a.mode, .int .i64 a.work]
  have S2 : St w ((w.alloc (.cells #[.int .i64 a.node, .int .i64 a.kind, .int .i64 a.term, .int .i64 a.gen, .int .i64 a.job, .int .i64 a.inc, .int .i64 a.version, .int .i64 a.epoch, .int .i64 a.until_, .int .i64 a.mode, .int .i64 a.work] 23)).alloc (.cells #[.int .i64 b.node, .int .i64 b.kind, .int .i64 b.term, .int .i64 b.gen, .int .i64 b.job, .int .i64 b.inc, .int .i64 b.version, .int .i64 b.epoch, .int .i64 b.until_, .int .i64 b.mode, .int .i64 b.work] 23)) [cellsT w.heap.size 23 a.cs, cellsT (w.heap.size + 1) 23 b.cs] := S1.newAt _ _ _ (alloc_size _ _)
  clear S1
  have q1 : ∀ wx, (binOp .eql 23 (.agg (mBare a).cs.toArray) (.agg (mBare b).cs.toArray)).run Tryd.prog wx = .ok (.bool (wAlike a b)) wx := fun wx => eqM (mBare a) (mBare b) wx
  go_enter Tryd.func10, Tryd.ntmps10
  go_wp2_with fail
  generalize w.heap.size + 1 = gb at *
  generalize w.heap.size = ga at *
  generalize (w.alloc _).alloc _ = w2 at *
  have x := S2.msg 0 rfl
  have y := S2.msg 1 rfl
  obtain ⟨x0, x1, x2, x3, x4, x5, x6, x7, x8, x9, x10⟩ := x
  obtain ⟨y0, y1, y2, y3, y4, y5, y6, y7, y8, y9, y10⟩ := y
  refine wp_region_held_drew (S := (fun w' => ((w'.cell? ⟨ga, 0, none⟩ = some (.int .i64 a.node) ∧ w'.cell? ⟨ga, 1, none⟩ = some (.int .i64 a.kind) ∧ w'.cell? ⟨ga, 2, none⟩ = some (.int .i64 a.term) ∧ w'.cell? ⟨ga, 3, none⟩ = some (.int .i64 a.gen) ∧ w'.cell? ⟨ga, 4, none⟩ = some (.int .i64 a.job) ∧ w'.cell? ⟨ga, 5, none⟩ = some (.int .i64 a.inc) ∧ w'.cell? ⟨ga, 6, none⟩ = some (.int .i64 a.version) ∧ w'.cell? ⟨ga, 7, none⟩ = some (.int .i64 a.epoch) ∧ w'.cell? ⟨ga, 8, none⟩ = some (.int .i64 a.until_) ∧ w'.cell? ⟨ga, 9, none⟩ = some (.int .i64 a.mode) ∧ w'.cell? ⟨ga, 10, none⟩ = some (.int .i64 a.work)) ∧ (w'.cell? ⟨gb, 0, none⟩ = some (.int .i64 b.node) ∧ w'.cell? ⟨gb, 1, none⟩ = some (.int .i64 b.kind) ∧ w'.cell? ⟨gb, 2, none⟩ = some (.int .i64 b.term) ∧ w'.cell? ⟨gb, 3, none⟩ = some (.int .i64 b.gen) ∧ w'.cell? ⟨gb, 4, none⟩ = some (.int .i64 b.job) ∧ w'.cell? ⟨gb, 5, none⟩ = some (.int .i64 b.inc) ∧ w'.cell? ⟨gb, 6, none⟩ = some (.int .i64 b.version) ∧ w'.cell? ⟨gb, 7, none⟩ = some (.int .i64 b.epoch) ∧ w'.cell? ⟨gb, 8, none⟩ = some (.int .i64 b.until_) ∧ w'.cell? ⟨gb, 9, none⟩ = some (.int .i64 b.mode) ∧ w'.cell? ⟨gb, 10, none⟩ = some (.int .i64 b.work))))) (by kernel_rfl) (by exact ⟨S2.drew.msg 0 rfl, S2.drew.msg 1 rfl⟩) (fun hHeld => ?_)
  change wpAnyH _ _ _ _ _ 6 (Array.replicate 6 false) _ _
  refine wpAnyH_take (i := 0) (v := ?v1) (ops_at rfl) (by kernel_rfl) (by kernel_rfl) (by kernel_rfl) (fun _ _ _ h => h) (Or.inl ⟨by rfl, ?hy1⟩) (by assumption) ?rest1
  case hy1 => intro w' hSw; (try dsimp only at hSw); go_simp; try with_reducible rfl
  try simp only [Act.put, List.setIfInBounds_toArray, List.set_cons_zero, List.set_cons_succ]
  refine wpAnyH_take (i := 2) (v := ?v2) (ops_at rfl) (by kernel_rfl) (by kernel_rfl) (by kernel_rfl) (fun _ _ _ h => h) (Or.inl ⟨by rfl, ?hy2⟩) (by assumption) ?rest2
  case hy2 => intro w' hSw; (try dsimp only at hSw); go_simp; try with_reducible rfl
  try simp only [Act.put, List.setIfInBounds_toArray, List.set_cons_zero, List.set_cons_succ]
  refine wpAnyH_ready (rs := [1]) (by kernel_rfl) (by simp) ?_
  refine AllReadyH.cons (ops_at rfl) (fun K hK => ?_) AllReadyH.nil
  go_simp
  refine (wBare a _).mono ?_
  rintro e w3 ⟨rfl, hb3⟩
  have S3 := S2.drew.grow hb3
  refine hK.out _ _ (by exact ⟨S3.msg 0 rfl, S3.msg 1 rfl⟩) (fun hHeld => ?_)
  clear hK K
  try simp only [Act.put, List.setIfInBounds_toArray, List.set_cons_zero, List.set_cons_succ]
  refine wpAnyH_ready (rs := [3]) (by kernel_rfl) (by simp) ?_
  refine AllReadyH.cons (ops_at rfl) (fun K hK => ?_) AllReadyH.nil
  go_simp
  refine (wBare b _).mono ?_
  rintro e w4 ⟨rfl, hb4⟩
  have S4 := S3.grow hb4
  refine hK.out _ _ (by exact ⟨S4.msg 0 rfl, S4.msg 1 rfl⟩) (fun hHeld => ?_)
  clear hK K
  try simp only [Act.put, List.setIfInBounds_toArray, List.set_cons_zero, List.set_cons_succ]
  refine wpAnyH_take (i := 4) (v := ?v5) (ops_at rfl) (by kernel_rfl) (by kernel_rfl) (by kernel_rfl) (fun _ _ _ h => h) (Or.inl ⟨by rfl, ?hy5⟩) (by assumption) ?rest5
  case hy5 => intro w' hSw; (try dsimp only at hSw); go_simp; try with_reducible rfl
  try simp only [Act.put, List.setIfInBounds_toArray, List.set_cons_zero, List.set_cons_succ]
  refine wpAnyH_take (i := 5) (v := ?v6) (ops_at rfl) (by kernel_rfl) (by kernel_rfl) (by kernel_rfl) (fun _ _ _ h => h) (Or.inl ⟨by rfl, ?hy6⟩) (by assumption) ?rest6
  case hy6 => intro w' hSw; (try dsimp only at hSw); go_simp; try with_reducible rfl
  try simp only [Act.put, List.setIfInBounds_toArray, List.set_cons_zero, List.set_cons_succ]
  refine wpAnyH_done (by kernel_rfl) ?_ _
  go_wp2
  go_ret
  exact ⟨rfl, S4.fin⟩

def STA.meant (s : STA) : Int := if s.mode = 2 then s.prior else s.goal
set_option maxRecDepth 10000 in
set_option maxHeartbeats 1600000 in
theorem wMeant (s : STA) (w : World) : Calls Tryd.prog 32 #[.agg #[.slice s.na s.nn s.nc, .slice s.ja s.jn s.jc, .int .i64 s.goal, .int .i64 s.prior, .int .i64 s.mode, .int .i64 s.term]] w fun e w' => e = .returned (.int .i64 s.meant) ∧ Below w.heap.size w w' := by
  have hb := ((St.start w).alloc (.cells #[.slice s.na s.nn s.nc, .slice s.ja s.jn s.jc, .int .i64 s.goal, .int .i64 s.prior, .int .i64 s.mode, .int .i64 s.term] 33)).fin
  by_cases h : s.mode = 2
  · have g : (s.mode == 2) = true := by simpa using h
    have E : Hid (s.meant = s.prior) := if_pos h
    clear h
    go_enter Tryd.func32, Tryd.ntmps32
    go_wp2
    go_ret
    exact ⟨by rw [E.out]; rfl, hb⟩
  · have g : (s.mode == 2) = false := by simpa using h
    have E : Hid (s.meant = s.goal) := if_neg h
    clear h
    go_enter Tryd.func32, Tryd.ntmps32
    go_wp2
    go_ret
    exact ⟨by rw [E.out]; rfl, hb⟩
def JB.writes (j : JB) (node : Int) : Int := if (lowB j.nodes.toNat : Int) = node then 1 else 0
set_option maxRecDepth 10000 in
set_option maxHeartbeats 1600000 in
theorem wWrites (j : JB) (node : Int) (w : World) (h0 : 0 < j.nodes) (h6 : j.nodes < 64) (hT : TabOk w) : Calls Tryd.prog 33 #[.agg #[.int .i64 j.queue, .int .i64 j.prio, .int .i64 j.lo, .int .i64 j.hi, .int .i64 j.work, .int .i64 j.pin, .int .i64 j.phase, .int .i64 j.inc, .int .i64 j.nodes, .int .i64 j.since, .int .i64 j.until_, .int .i64 j.epoch], .int .i64 node] w fun e w' => e = .returned (.int .i64 (j.writes node)) ∧ Below w.heap.size w w' := by
  have hb := ((St.start w).alloc (.cells #[.int .i64 j.queue, .int .i64 j.prio, .int .i64 j.lo, .int .i64 j.hi, .int .i64 j.work, .int .i64 j.pin, .int .i64 j.phase, .int .i64 j.inc, .int .i64 j.nodes, .int .i64 j.since, .int .i64 j.until_, .int .i64 j.epoch] 40)).fin
  have E : Hid (j.writes node = if (lowB j.nodes.toNat : Int) = node then 1 else 0) := rfl
  obtain ⟨n, hn⟩ : ∃ n : Nat, j.nodes = n := ⟨j.nodes.toNat, by omega⟩
  rw [hn] at h0 h6 E hb ⊢
  have H := fun w => tz_any n w (by omega) (by omega)
  rw [Int.toNat_natCast] at E
  generalize lowB n = b at *
  clear hn
  have hT' := hT.all hb
  by_cases h : (b : Int) = node
  · have g : ((b : Int) == node) = true := by simpa using h
    rw [if_pos h] at E
    clear h
    go_enter Tryd.func33, Tryd.ntmps33
    go_wp2_with fail
    refine (H _ hT').mono ?_
    rintro e w1 ⟨rfl, rfl⟩
    go_wp2
    go_ret
    exact ⟨by rw [E.out]; rfl, hb⟩
  · have g : ((b : Int) == node) = false := by simpa using h
    rw [if_neg h] at E
    clear h
    go_enter Tryd.func33, Tryd.ntmps33
    go_wp2_with fail
    refine (H _ hT').mono ?_
    rintro e w1 ⟨rfl, rfl⟩
    go_wp2
    go_ret
    exact ⟨by rw [E.out]; rfl, hb⟩
theorem conv_sb (w : World) (l : List UInt8) : ∃ c w', (convert 9 46 (.string ⟨l.toArray⟩)).run Tryd.prog w = .ok (.slice (some ⟨w.heap.size, 0, none⟩) l.length c) w' ∧ Below w.heap.size w w' ∧ At w' (some ⟨w.heap.size, 0, none⟩) l ∧ l.length ≤ c := by
  have h := Go.Lib.run_convert_string_bytes (P := Tryd.prog) w 9 46 5 ⟨l.toArray⟩ Tryd.underlying9 sliceB u8T
  have hs : (⟨l.toArray⟩ : ByteArray).size = l.length := by simp [ByteArray.size]
  rw [hs] at h
  refine ⟨_, _, h, ⟨rfl, rfl, rfl, ?_, fun k hk => Go.Lib.bytesWorld_at_old _ _ _ k hk⟩, ?_, grownCap_ge _ _ _ _⟩
  · rw [Go.Lib.bytesWorld_size]; omega
  · intro k hk
    refine ⟨rfl, ?_⟩
    have := Go.Lib.bytesWorld_cell w 5 ⟨l.toArray⟩ k (by rw [hs]; exact hk)
    rw [show adr (some ⟨w.heap.size, 0, none⟩) k = ⟨w.heap.size, k, none⟩ by simp [adr, Addr.add_lit]]
    simpa [hk] using this
theorem sGet_small {s : SS} (h : s.Ok) (job ep : Int) : ((sGet s job ep).getD []).length ≤ 100 := by
  unfold sGet
  have hj : jobOk job → (s.job job).cd.length ≤ 100 ∧ (s.job job).sd.length ≤ 100 := by
    intro hj
    unfold SS.job
    rw [List.getD]
    cases hx : s.js[job.toNat]? with
    | none => simp [PS.nil]
    | some x => exact h.small x (List.mem_of_getElem? hx)
  split
  · simp
  · rename_i h1
    have := hj (by by_cases h : jobOk job; exact h; exact absurd (.inl h) h1)
    split
    · simp; omega
    · split
      · simp; omega
      · simp
theorem oGet_small {w0 w : World} {r : List Thing} {sv : Value} {o : Option SS} (S : St w0 w r) (k : Nat) (hk : r[k]? = some (soT sv o)) (job ep : Int) : ((oGet o job ep).getD []).length ≤ 100 := by
  cases o with
  | none => simp [oGet]
  | some s =>
    have hkl := (List.getElem?_eq_some_iff.1 hk).1
    obtain ⟨g, e, S1⟩ := S.soSome k hk
    exact sGet_small (S1.storeOk k (by rw [List.getElem?_set_self hkl])) job ep
theorem getText_len {l t : List UInt8} {e : Nat} (h : getText l 0 = some (t, e)) : t.length ≤ l.length := by
  unfold getText at h
  cases hg : getNum l 0 with
  | none => rw [hg] at h; cases h
  | some p =>
    rw [hg] at h
    simp at h
    obtain ⟨h1, h2, h3⟩ := h
    rw [← h2]
    simp
    omega
def wHadD (d : List UInt8) : Int :=
  match getText d 0 with
  | none => 0
  | some (t, e) => if e = d.length then (match getNum t 0 with | none => 0 | some (n, x) => if x = t.length then min 1000 (n : Int) else 0) else 0
def wHad (s : STA) (job : Int) (o : Option SS) : Int :=
  if job < 1 ∨ (s.jn : Int) < job then 0 else
  match s.J[(job - 1).toNat]? with
  | none => 0
  | some j => if j.epoch = 0 then 0 else wHadD ((oGet o job j.epoch).getD [])
section
variable {w0 w : World} {r : List Thing} {k : Nat} {sv : Value} {o : Option SS}
set_option maxRecDepth 10000 in
set_option maxHeartbeats 3200000 in
theorem wHad_any (S : St w0 w r) (hk : r[k]? = some (soT sv o)) (s : STA) (hs : s.At w) (job : Int) :
    Calls Tryd.prog 19 #[.agg #[.slice s.na s.nn s.nc, .slice s.ja s.jn s.jc, .int .i64 s.goal, .int .i64 s.prior, .int .i64 s.mode, .int .i64 s.term], .int .i64 job, sv] w fun e w' => e = .returned (.int .i64 (wHad s job o)) ∧ Below w.heap.size w w' := by
  have hb := ((St.start w).alloc (.cells #[.slice s.na s.nn s.nc, .slice s.ja s.jn s.jc, .int .i64 s.goal, .int .i64 s.prior, .int .i64 s.mode, .int .i64 s.term] 33)).fin
  have HK := hid hk
  by_cases h1 : job < 1
  · have E : Hid (wHad s job o = 0) := if_pos (.inl h1)
    have g1 : decide (job < 1) = true := decide_eq_true h1
    clear h1 hk
    go_enter Tryd.func19, Tryd.ntmps19
    go_wp2
    go_ret
    exact ⟨by rw [E.out]; rfl, hb⟩
  by_cases h2 : (s.jn : Int) < job
  · have E : Hid (wHad s job o = 0) := if_pos (.inr h2)
    have g1 : decide (job < 1) = false := decide_eq_false h1
    have g2 : decide ((s.jn : Int) < job) = true := decide_eq_true h2
    clear h1 h2 hk
    go_enter Tryd.func19, Tryd.ntmps19
    go_wp2
    go_ret
    exact ⟨by rw [E.out]; rfl, hb⟩
  obtain ⟨K, rfl⟩ : ∃ K : Nat, job = K + 1 := ⟨(job - 1).toNat, by omega⟩
  have hK : K < s.jn := by omega
  have hl : K < s.J.length := by rw [hs.jn]; exact hK
  have hjm := hs.jm
  unfold maxLen at hjm
  have i0 := fun wx => idxJB s.ja s.jn s.jc (fun h => hs.j.ok (by rw [hs.jn]; exact h)) K K rfl hK wx
  have HX : Hid (∀ w', Below w.heap.size w w' → JbAt w' (adr s.ja (K * 12)) s.J[K]) := fun w' hb => (hs.j.all eJBok hb).jbAt hl
  have g1 : decide ((K : Int) + 1 < 1) = false := decide_eq_false h1
  have g2 : decide ((s.jn : Int) < (K : Int) + 1) = false := decide_eq_false h2
  have E0 : Hid (wHad s ((K : Int) + 1) o = if s.J[K].epoch = 0 then 0 else wHadD ((oGet o ((K : Int) + 1) s.J[K].epoch).getD [])) := by
    rw [Hid, wHad, if_neg (by omega), show ((K : Int) + 1 - 1).toNat = K by omega, List.getElem?_eq_getElem hl]
  generalize s.J[K] = x at *
  generalize adr s.ja (K * 12) = A at *
  clear h1 h2 hl hk
  obtain ⟨x0, x1, x2, x3, x4, x5, x6, x7, x8, x9, x10, x11⟩ := HX.out _ hb
  by_cases h3 : x.epoch = 0
  · have E : Hid (wHad s ((K : Int) + 1) o = 0) := by rw [Hid, E0.out, if_pos h3]
    have g3 : (x.epoch == 0) = true := by simpa using h3
    clear h3
    go_enter Tryd.func19, Tryd.ntmps19
    go_wp2
    go_ret
    exact ⟨by rw [E.out]; rfl, hb⟩
  have g3 : (x.epoch == 0) = false := by simpa using h3
  have E1 : Hid (wHad s ((K : Int) + 1) o = wHadD ((oGet o ((K : Int) + 1) x.epoch).getD [])) := by rw [Hid, E0.out, if_neg h3]
  clear h3 E0
  have S1 := S.alloc (.cells #[.slice s.na s.nn s.nc, .slice s.ja s.jn s.jc, .int .i64 s.goal, .int .i64 s.prior, .int .i64 s.mode, .int .i64 s.term] 33)
  go_enter Tryd.func19, Tryd.ntmps19
  go_wp2_with fail
  generalize w.alloc _ = w1 at *
  refine (soGet S1 k HK.out ((K : Int) + 1) x.epoch).mono ?_
  rintro e w2 ⟨a, c, rfl, ho, hb2⟩
  have S2 := (St.start w1).bytes ho hb2
  have hb3 := bst hb hb2
  have hsm := oGet_small S1 k HK.out ((K : Int) + 1) x.epoch
  generalize (oGet o ((K : Int) + 1) x.epoch).getD [] = d at *
  generalize (oGet o ((K : Int) + 1) x.epoch).isSome = ok at *
  obtain ⟨n, hn⟩ : ∃ n, d.length = n := ⟨_, rfl⟩
  rw [hn] at S2 hsm ⊢
  obtain ⟨-, h2, h3, -, hat⟩ := S2.slA 0 rfl
  have HN := hid hn
  unfold maxLen at h3
  clear ho hb2 S1 S x0 x1 x2 x3 x4 x5 x6 x7 x8 x9 x10 x11 hn HX hs i0 hb
  have hb := hb3
  clear hb3
  go_wp2_with fail
  refine (getText_any a d n c 0 w2 HN.out (by omega) h2 hat).mono ?_
  rintro e w3 ⟨rfl, rfl⟩
  rcases hT : getText d 0 with _ | ⟨t, x2⟩
  · have E : Hid (wHad s ((K : Int) + 1) o = 0) := by rw [Hid, E1.out, wHadD, hT]
    rw [res3s]
    clear hT E1
    go_wp2
    go_ret
    exact ⟨by rw [E.out]; rfl, hb⟩
  · rw [res3s]
    by_cases h5 : x2 = n
    · have E2 : Hid (wHad s ((K : Int) + 1) o = match getNum t 0 with | none => 0 | some (n, x) => if x = t.length then min 1000 (n : Int) else 0) := by
        rw [Hid, E1.out, wHadD, hT]; simp only [HN.out, if_pos h5]
      have g5 : ((x2 : Int) != (n : Int)) = false := by rw [h5]; simp
      obtain ⟨c4, w4, hcv, hb4, hat4, hle4⟩ := conv_sb w2 t
      have hmm := getText_len hT
      rw [HN.out] at hmm
      clear h5 hT E1
      have hbz : Below w.heap.size w w4 := bst hb hb4
      obtain ⟨m, hm⟩ : ∃ m, t.length = m := ⟨_, rfl⟩
      rw [hm] at hcv hle4 hmm
      have HM := hid hm
      have gl : (⟨t.toArray⟩ : ByteArray).size = m := by rw [← hm]; simp [ByteArray.size]
      clear hm
      go_wp2_with fail
      refine (getNum_any (some ⟨w2.heap.size, 0, none⟩) t m c4 0 w4 HM.out (by omega) hle4 hat4).mono ?_
      rintro e w5 ⟨rfl, rfl⟩
      rcases hN : getNum t 0 with _ | ⟨v, x3⟩
      · have E : Hid (wHad s ((K : Int) + 1) o = 0) := by rw [Hid, E2.out, hN]
        rw [res3]
        clear hN E2
        go_wp2
        go_ret
        exact ⟨by rw [E.out]; rfl, hbz⟩
      · rw [res3]
        by_cases h6 : x3 = m
        · have E : Hid (wHad s ((K : Int) + 1) o = min 1000 (v : Int)) := by rw [Hid, E2.out, hN]; simp only [HM.out, if_pos h6]
          have g6 : ((x3 : Int) != (m : Int)) = false := by rw [h6]; simp
          clear h6 hN E2
          go_wp2
          all_goals first
            | (have hM : min 1000 (v : Int) = 1000 := by omega
               go_ret
               exact ⟨by rw [E.out, hM]; rfl, hbz⟩)
            | (have hM : min 1000 (v : Int) = v := by omega
               go_ret
               exact ⟨by rw [E.out, hM]; rfl, hbz⟩)
        · have E : Hid (wHad s ((K : Int) + 1) o = 0) := by rw [Hid, E2.out, hN]; simp only [HM.out, if_neg h6]
          have g6 : ((x3 : Int) != (m : Int)) = true := by simpa using (fun h : (x3 : Int) = m => h6 (by omega))
          clear h6 hN E2
          go_wp2
          go_ret
          exact ⟨by rw [E.out]; rfl, hbz⟩
    · have E : Hid (wHad s ((K : Int) + 1) o = 0) := by
        rw [Hid, E1.out, wHadD, hT]; simp only [HN.out, if_neg h5]
      have g5 : ((x2 : Int) != (n : Int)) = true := by simpa using (fun h : (x2 : Int) = n => h5 (by omega))
      clear h5 hT E1
      go_wp2
      go_ret
      exact ⟨by rw [E.out]; rfl, hb⟩
end
end Go.Proofs.YtilobmefomoemaaDoor
