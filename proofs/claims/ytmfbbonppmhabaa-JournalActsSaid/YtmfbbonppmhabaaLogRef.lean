/- The document's log (dunnageref05): its walks. -/
import Derived.Test.YtmfbbonppmhabaaLogs
namespace Go.Proofs.Ytmfbbonppmhabaa
set_option linter.unusedVariables false
set_option linter.unusedSimpArgs false
open Go.RowKit

theorem step_make {ops : Array Oper} {o : Oper} {a : Act} {w : World} {K : Act → World → Prop} {Q : Exit → Act → World → Prop} {E : Prop} (hw : Region.wanted o (yielded ops a.tmps) = true) (s x : Operand) (t : TypeId)
    (ho : o.op = .makeSlice t s x) {R : Value → World → Prop} (v y : Value) (hs : a.eval s = v) (hx : a.eval x = y)
    (hr : ∃ v' w', (Instr.makeSlice t v y).run Try.prog w = .ok v' w' ∧ R v' w') (h : ∀ v' w', R v' w' → K (a.put o.dst v') w') : if Region.wanted o (yielded ops a.tmps) = true then Oper.wp Try.prog o a w K Q else E := by
  rw [if_pos hw]
  exact wp_make s x t ho v y hs hx hr h
/-- A document's log as it lies. -/
def rlogC (pr : Value) (fr sz : Nat) (vL : Value) : List Value := [pr, .int .i64 (fr : Int), .int .i64 (sz : Int), vL]
def RD.nought (r : RD) (fr sz at_ : Nat) : RD := (r.write ((fr + at_ : Nat) : Int) (List.replicate (sz - at_) 0)).sync
theorem RD.write_len (r : RD) (a : Int) (l : List UInt8) : (r.write a l).ps.length ≤ r.ps.length + l.length ∧ (r.write a l).syncs = r.syncs ∧ (r.write a l).b = r.b := by
  unfold RD.write
  split
  · exact ⟨Nat.le_add_right _ _, rfl, rfl⟩
  · exact ⟨by simp, rfl, rfl⟩
/-- What Put and Append tell and leave. -/
def RLogPost (w0 : World) (tl : List Thing) (pr : Value) (g fr sz : Nat) (R : Int × RD × List (List UInt8)) (e : Ending) (w' : World) : Prop :=
  ∃ ys aY cY, e = .returned (.int .i64 R.1) ∧ ys.map BS.l = R.2.2 ∧ (∀ x ∈ ys, BS.Hd x) ∧ St w0 w' (cellsT g 90 (rlogC pr fr sz (.slice aY ys.length cY)) :: rdT pr R.2.1 :: rowsT eS bsRefs (.slice aY ys.length cY) ys :: tl)
/-- What the document's Put answers and leaves. -/
def rlogPut (fr sz : Nat) (r : RD) (ps : List (List UInt8)) (l : List UInt8) : Int × RD × List (List UInt8) :=
  if (frameB l).length = 0 then (1, r, ps)
  else if sz < (frameB l).length + (ps.flatMap frameB).length then (3, r, ps)
  else (0, r.write ((fr + (ps.flatMap frameB).length : Nat) : Int) (frameB l), ps ++ [l])
theorem frameB_le (l : List UInt8) : (frameB l).length ≤ 4020 := by
  by_cases h1 : 1 ≤ l.length
  · by_cases h2 : l.length ≤ 4000
    · rw [frame_len h1 h2]
      have := codeNum_len (l.length : Int)
      omega
    · unfold frameB; rw [if_pos (by omega)]; simp
  · unfold frameB; rw [if_pos (by omega)]; simp

section
variable {w0 w : World} {tl : List Thing} {pr vL : Value} {r : RD} {g fr sz : Nat} {xs : List BS}
set_option maxRecDepth 10000 in
set_option maxHeartbeats 1600000 in
theorem rzero_any (S : St w0 w (cellsT g 90 (rlogC pr fr sz vL) :: rdT pr r :: tl)) (at_ : Nat) (ha : at_ ≤ sz) (hf : fr + sz ≤ 65536) (hps : r.ps.length ≤ 10000000) (hs : r.syncs < 100000000) :
    Calls Try.prog 66 #[.pointer (some ⟨g, 0, none⟩), .int .i64 at_] w fun e w' => e = .returned (.tuple #[]) ∧ St w0 w' (cellsT g 90 (rlogC pr fr sz vL) :: rdT pr (r.nought fr sz at_) :: tl) := by
  obtain ⟨_, gr, _, _, _, rfl, _⟩ := (S.front 1 rfl).rdOpen
  obtain ⟨m, hm⟩ : ∃ m, sz - at_ = m := ⟨_, rfl⟩
  obtain ⟨c, hc⟩ : ∃ c : Int, (if (fr : Int) + (at_ : Int) < 0 then 1 else if (r.b.length : Int) < (fr : Int) + (at_ : Int) + (m : Nat) then 3 else 0) = c := ⟨_, rfl⟩
  have HCd := hid hc
  clear hc
  have HC : Hid (∀ w', St w0 w' (cellsT g 90 (rlogC (.pointer (some ⟨gr, 0, none⟩)) fr sz vL) :: rdT (.pointer (some ⟨gr, 0, none⟩)) r :: tl) → w'.cell? ⟨g, 0, none⟩ = some (.pointer (some ⟨gr, 0, none⟩)) ∧ w'.cell? ⟨g, 1, none⟩ = some (.int .i64 (fr : Int)) ∧ w'.cell? ⟨g, 2, none⟩ = some (.int .i64 (sz : Int))) :=
    fun w' S' => ⟨S'.cell 0 rfl 0 rfl, S'.cell 0 rfl 1 rfl, S'.cell 0 rfl 2 rfl⟩
  have e1 : IntKind.i64.wrap ((fr : Int) + (at_ : Int)) = (fr : Int) + (at_ : Int) := by rw [IntKind.wrap_i64]; omega
  have e2 : IntKind.i64.wrap ((sz : Int) - (at_ : Int)) = (m : Int) := by rw [IntKind.wrap_i64]; omega
  have HM := hid hm
  have hmb : m ≤ 65536 := by omega
  have hw2 := RD.write_len r ((fr : Int) + (at_ : Int)) (List.replicate m 0)
  rw [List.length_replicate] at hw2
  clear hm
  go_enter Try.func66, Try.ntmps66
  go_wp2_with fail
  refine wp_region_held_drew (S := (fun w' => w'.cell? ⟨g, 0, none⟩ = some (.pointer (some ⟨gr, 0, none⟩)) ∧ w'.cell? ⟨g, 1, none⟩ = some (.int .i64 (fr : Int)) ∧ w'.cell? ⟨g, 2, none⟩ = some (.int .i64 (sz : Int)))) (by kernel_rfl) (by exact HC.out _ S.drew) (fun hHeld => ?_)
  change wpAnyH _ _ _ _ _ 18 (Array.replicate 18 false) _ _
  refine wpAnyH_take (i := 0) (v := ?v1) (ops_at rfl) (by kernel_rfl) (by kernel_rfl) (by kernel_rfl) (fun _ _ _ h => h) (Or.inl ⟨by rfl, ?hy1⟩) (by assumption) ?rest1
  case hy1 => intro w' hSw; (try dsimp only at hSw); go_simp; try with_reducible rfl
  try simp only [Act.put, List.setIfInBounds_toArray, List.set_cons_zero, List.set_cons_succ]
  refine wpAnyH_take (i := 1) (v := ?v2) (ops_at rfl) (by kernel_rfl) (by kernel_rfl) (by kernel_rfl) (fun _ _ _ h => h) (Or.inl ⟨by rfl, ?hy2⟩) (by assumption) ?rest2
  case hy2 => intro w' hSw; (try dsimp only at hSw); go_simp; try with_reducible rfl
  try simp only [Act.put, List.setIfInBounds_toArray, List.set_cons_zero, List.set_cons_succ]
  refine wpAnyH_take (i := 2) (v := ?v3) (ops_at rfl) (by kernel_rfl) (by kernel_rfl) (by kernel_rfl) (fun _ _ _ h => h) (Or.inl ⟨by rfl, ?hy3⟩) (by assumption) ?rest3
  case hy3 => intro w' hSw; (try dsimp only at hSw); go_simp; try with_reducible rfl
  try simp only [Act.put, List.setIfInBounds_toArray, List.set_cons_zero, List.set_cons_succ]
  refine wpAnyH_take (i := 3) (v := ?v4) (ops_at rfl) (by kernel_rfl) (by kernel_rfl) (by kernel_rfl) (fun _ _ _ h => h) (Or.inl ⟨by rfl, ?hy4⟩) (by assumption) ?rest4
  case hy4 => intro w' hSw; (try dsimp only at hSw); go_simp; try with_reducible rfl
  try simp only [Act.put, List.setIfInBounds_toArray, List.set_cons_zero, List.set_cons_succ]
  refine wpAnyH_take (i := 4) (v := ?v5) (ops_at rfl) (by kernel_rfl) (by kernel_rfl) (by kernel_rfl) (fun _ _ _ h => h) (Or.inl ⟨by rfl, ?hy5⟩) (by assumption) ?rest5
  case hy5 => intro w' hSw; (try dsimp only at hSw); go_simp; try with_reducible rfl
  try simp only [Act.put, List.setIfInBounds_toArray, List.set_cons_zero, List.set_cons_succ]
  refine wpAnyH_take (i := 5) (v := ?v6) (ops_at rfl) (by kernel_rfl) (by kernel_rfl) (by kernel_rfl) (fun _ _ _ h => h) (Or.inl ⟨by rfl, ?hy6⟩) (by assumption) ?rest6
  case hy6 => intro w' hSw; (try dsimp only at hSw); go_simp; try with_reducible rfl
  try simp only [Act.put, List.setIfInBounds_toArray, List.set_cons_zero, List.set_cons_succ]
  refine wpAnyH_take (i := 6) (v := ?v7) (ops_at rfl) (by kernel_rfl) (by kernel_rfl) (by kernel_rfl) (fun _ _ _ h => h) (Or.inl ⟨by rfl, ?hy7⟩) (by assumption) ?rest7
  case hy7 => intro w' hSw; (try dsimp only at hSw); go_simp; try with_reducible rfl
  try simp only [Act.put, List.setIfInBounds_toArray, List.set_cons_zero, List.set_cons_succ]
  refine wpAnyH_take (i := 7) (v := ?v8) (ops_at rfl) (by kernel_rfl) (by kernel_rfl) (by kernel_rfl) (fun _ _ _ h => h) (Or.inl ⟨by rfl, ?hy8⟩) (by assumption) ?rest8
  case hy8 => intro w' hSw; (try dsimp only at hSw); go_simp; try with_reducible rfl
  try simp only [Act.put, List.setIfInBounds_toArray, List.set_cons_zero, List.set_cons_succ]
  refine wpAnyH_take (i := 8) (v := ?v9) (ops_at rfl) (by kernel_rfl) (by kernel_rfl) (by kernel_rfl) (fun _ _ _ h => h) (Or.inl ⟨by rfl, ?hy9⟩) (by assumption) ?rest9
  case hy9 => intro w' hSw; (try dsimp only at hSw); go_simp; try with_reducible rfl
  try simp only [Act.put, List.setIfInBounds_toArray, List.set_cons_zero, List.set_cons_succ]
  refine wpAnyH_take (i := 9) (v := ?v10) (ops_at rfl) (by kernel_rfl) (by kernel_rfl) (by kernel_rfl) (fun _ _ _ h => h) (Or.inl ⟨by rfl, ?hy10⟩) (by assumption) ?rest10
  case hy10 => intro w' hSw; (try dsimp only at hSw); go_simp; try with_reducible rfl
  try simp only [Act.put, List.setIfInBounds_toArray, List.set_cons_zero, List.set_cons_succ]
  refine wpAnyH_take (i := 10) (v := ?v11) (ops_at rfl) (by kernel_rfl) (by kernel_rfl) (by kernel_rfl) (fun _ _ _ h => h) (Or.inl ⟨by rfl, ?hy11⟩) (by assumption) ?rest11
  case hy11 => intro w' hSw; (try dsimp only at hSw); go_simp; try with_reducible rfl
  try simp only [Act.put, List.setIfInBounds_toArray, List.set_cons_zero, List.set_cons_succ]
  refine wpAnyH_take (i := 11) (v := ?v12) (ops_at rfl) (by kernel_rfl) (by kernel_rfl) (by kernel_rfl) (fun _ _ _ h => h) (Or.inl ⟨by rfl, ?hy12⟩) (by assumption) ?rest12
  case hy12 => intro w' hSw; (try dsimp only at hSw); go_simp; try with_reducible rfl
  try simp only [Act.put, List.setIfInBounds_toArray, List.set_cons_zero, List.set_cons_succ]
  refine wpAnyH_take (i := 12) (v := ?v13) (ops_at rfl) (by kernel_rfl) (by kernel_rfl) (by kernel_rfl) (fun _ _ _ h => h) (Or.inl ⟨by rfl, ?hy13⟩) (by assumption) ?rest13
  case hy13 => intro w' hSw; (try dsimp only at hSw); go_simp; try with_reducible rfl
  try simp only [Act.put, List.setIfInBounds_toArray, List.set_cons_zero, List.set_cons_succ]
  refine wpAnyH_take (i := 13) (v := ?v14) (ops_at rfl) (by kernel_rfl) (by kernel_rfl) (by kernel_rfl) (fun _ _ _ h => h) (Or.inl ⟨by rfl, ?hy14⟩) (by assumption) ?rest14
  case hy14 => intro w' hSw; (try dsimp only at hSw); go_simp; try with_reducible rfl
  try simp only [Act.put, List.setIfInBounds_toArray, List.set_cons_zero, List.set_cons_succ]
  refine wpAnyH_take (i := 14) (v := ?v15) (ops_at rfl) (by kernel_rfl) (by kernel_rfl) (by kernel_rfl) (fun _ _ _ h => h) (Or.inl ⟨by rfl, ?hy15⟩) (by assumption) ?rest15
  case hy15 => intro w' hSw; (try dsimp only at hSw); go_simp; try with_reducible rfl
  try simp only [Act.put, List.setIfInBounds_toArray, List.set_cons_zero, List.set_cons_succ]
  refine wpAnyH_take (i := 15) (v := ?v16) (ops_at rfl) (by kernel_rfl) (by kernel_rfl) (by kernel_rfl) (fun _ _ _ h => h) (Or.inl ⟨by rfl, ?hy16⟩) (by assumption) ?rest16
  case hy16 => intro w' hSw; (try dsimp only at hSw); go_simp; try with_reducible rfl
  try simp only [Act.put, List.setIfInBounds_toArray, List.set_cons_zero, List.set_cons_succ]
  refine wpAnyH_ready (rs := [16]) (by kernel_rfl) (by simp) ?_
  refine AllReadyH.cons (ops_at rfl) (fun K hK => ?_) AllReadyH.nil
  refine step_make (by rfl) (.tmp 19) (.tmp 19) 27 rfl _ _ rfl rfl (run_make _ m (by omega)) ?_
  rintro v1 w1 ⟨rfl, ho1, hb1⟩
  have S1 := (S.drew.bytes ho1 hb1).rot
  clear ho1 hb1
  refine hK.out _ _ (by exact HC.out _ S1.tail) (fun hHeld => ?_)
  clear hK K
  try simp only [Act.put, List.setIfInBounds_toArray, List.set_cons_zero, List.set_cons_succ]
  refine wpAnyH_ready (rs := [17]) (by kernel_rfl) (by simp) ?_
  refine AllReadyH.cons (ops_at rfl) (fun K hK => ?_) AllReadyH.nil
  go_simp
  refine (rdwrite_any (by exact S1.front 2 rfl) _ _ (List.replicate m 0) m m c HCd.out (by simp) (by omega) (by omega) (by exact Reads.at 0 rfl)).mono ?_
  rintro e w2 ⟨rfl, S2⟩
  have S2' := S2.front 2 rfl
  refine hK.out _ _ (by exact ⟨S2'.cell 0 rfl 0 rfl, S2'.cell 0 rfl 1 rfl, S2'.cell 0 rfl 2 rfl⟩) (fun hHeld => ?_)
  clear hK K
  try simp only [Act.put, List.setIfInBounds_toArray, List.set_cons_zero, List.set_cons_succ]
  refine wpAnyH_done (by kernel_rfl) ?_ _
  have c0 := S2'.cell 0 rfl 0 rfl
  go_wp2_with fail
  refine (rdsync_any (by exact S2) (by omega) (by omega)).mono ?_
  rintro e w3 ⟨rfl, S3⟩
  go_wp2
  refine bodyPost_end (results_none rfl _ _ _) rfl ⟨rfl, ?_⟩
  unfold RD.nought
  rw [HM.out, Int.natCast_add]
  exact S3.swap.tail.swap
set_option maxRecDepth 10000 in
set_option maxHeartbeats 1600000 in
theorem rUsed_any {aL : Option Addr} {n cL : Nat} (S : St w0 w (cellsT g 90 (rlogC pr fr sz (.slice aL n cL)) :: rowsT eS bsRefs (.slice aL n cL) xs :: tl)) (u : Nat) (hu : ((xs.map BS.l).flatMap frameB).length = u) (hle : u ≤ 1000000) (hhd : ∀ x ∈ xs, BS.Hd x) (hok : ∀ x ∈ xs, x.l.length ≤ 4000) :
    Calls Try.prog 54 #[.pointer (some ⟨g, 0, none⟩)] w fun e w' => e = .returned (.int .i64 (u : Int)) ∧ St w0 w' (cellsT g 90 (rlogC pr fr sz (.slice aL n cL)) :: rowsT eS bsRefs (.slice aL n cL) xs :: tl) := by
  have HU := hid hu
  have A := S.rowsAt eSok 1 rfl
  have HN := hid A.1
  have HX := hid A.2.2.2.2.2
  have HHd := hid hhd
  have HOk := hid hok
  have HC : Hid (∀ w', St w0 w' (cellsT g 90 (rlogC pr fr sz (.slice aL n cL)) :: rowsT eS bsRefs (.slice aL n cL) xs :: tl) → w'.cell? ⟨g, 3, none⟩ = some (.slice aL n cL)) := fun w' S' => S'.cell 0 rfl 3 rfl
  have HS := hid S
  have HI : Hid (∀ h : 0 < n, aL.isSome = true) := fun h => A.2.2.2.2.1.ok (by rw [A.1]; exact h)
  have hn1 : n ≤ maxLen := Nat.le_trans A.2.1 A.2.2.1
  unfold maxLen at hn1
  clear A hu hhd hok
  go_enter Try.func54, Try.ntmps54
  go_wp2_with fail
  go_loopw [3, 4] (fun s i wr => ∃ (k v : Nat), k ≤ n ∧ i = .int .i64 k ∧ s = .int .i64 v ∧ (((xs.take k).map BS.l).flatMap frameB).length = v ∧ St w0 wr (cellsT g 90 (rlogC pr fr sz (.slice aL n cL)) :: rowsT eS bsRefs (.slice aL n cL) xs :: tl)) (fun _ i _ => n - (intOf i).toNat)
  case atStart => exact ⟨0, 0, Nat.zero_le _, rfl, rfl, by simp, HS.out⟩
  case round =>
    obtain ⟨k, v, hk, rfl, rfl, hv, Sk⟩ := hrel
    have HV := hid hv
    clear hv
    have c3 := HC.out _ Sk
    by_cases hlt : k < n
    · have hkl : k < xs.length := by rw [HN.out]; exact hlt
      have i0 := fun wx => idxS aL n cL HI.out k k rfl hlt wx
      have A := Sk.rowsAt eSok 1 rfl
      have x0 := A.2.2.2.2.1.cellS hkl
      have HXk := hid (And.intro (HHd.out _ (List.getElem_mem hkl)) (A.2.2.2.2.2 _ (List.getElem_mem hkl) _ (List.mem_singleton.2 rfl)))
      have hstep : (((xs.take (k + 1)).map BS.l).flatMap frameB).length = v + (frameB (xs[k]).l).length := by
        rw [List.take_succ_eq_append_getElem hkl, List.map_append, List.flatMap_append, List.length_append, HV.out]; simp
      have hbnd : v + (frameB (xs[k]).l).length ≤ u := by
        rw [← hstep, ← HU.out]
        have e : xs.map BS.l = (xs.take (k + 1)).map BS.l ++ (xs.drop (k + 1)).map BS.l := by rw [← List.map_append, List.take_append_drop]
        rw [e, List.flatMap_append, List.length_append]
        exact Nat.le_add_right _ _
      have HStep := hid hstep
      have hx4 := HOk.out _ (List.getElem_mem hkl)
      clear A hstep
      generalize xs[k] = x at *
      generalize adr aL k = A at *
      obtain ⟨f, hf⟩ : ∃ f, (frameB x.l).length = f := ⟨_, rfl⟩
      have HF := hid hf
      rw [hf] at HStep hbnd
      clear hf
      go_wp2_with fail
      refine (rfrPut_any x.a x.l x.n x.c wr HXk.out.1.len (by have := HXk.out.1.len; omega) (by exact HXk.out.2)).mono ?_
      rintro e w1 ⟨a1, c1, rfl, -, hb1⟩
      rw [HF.out]
      have S1 := Sk.grow hb1
      have t1 : IntKind.i64.wrap ((v : Int) + (f : Int)) = ((v + f : Nat) : Int) := by rw [IntKind.wrap_i64]; omega
      go_wp2
      go_roundw
      case rel => exact ⟨k + 1, v + f, by omega, by go_num, by go_num, HStep.out, S1⟩
      case measure => simp [intOf]; omega
    · have e : v = u := by
        rw [← HU.out, ← HV.out, List.take_of_length_le (by rw [HN.out]; omega)]
      go_wp2
      go_ret
      rw [e]
      exact ⟨rfl, Sk⟩
theorem St.swap23 {x y z : Thing} (S : St w0 w (x :: y :: z :: tl)) : St w0 w (x :: z :: y :: tl) := ((S.front 1 rfl).front 2 rfl).front 2 rfl
set_option maxRecDepth 10000 in
set_option maxHeartbeats 3200000 in
theorem rPut_any {aL : Option Addr} {n cL : Nat} (S : St w0 w (cellsT g 90 (rlogC pr fr sz (.slice aL n cL)) :: rdT pr r :: rowsT eS bsRefs (.slice aL n cL) xs :: tl)) (a : Option Addr) (l : List UInt8) (m cap : Nat) (hm : l.length = m) (hmb : m ≤ 65536) (hcap : m ≤ cap) (hnil : a = none → cap = 0) (hA : Reads w0 tl a l)
    (hhd : ∀ x ∈ xs, BS.Hd x) (hok : ∀ x ∈ xs, x.l.length ≤ 4000) (hu : ((xs.map BS.l).flatMap frameB).length ≤ sz) (hxn : xs.length ≤ 1000000) (hf : fr + sz ≤ 65536) (hps : r.ps.length ≤ 10000000) :
    Calls Try.prog 50 #[.pointer (some ⟨g, 0, none⟩), .slice a m cap] w fun e w' => RLogPost w0 tl pr g fr sz (rlogPut fr sz r (xs.map BS.l) l) e w' := by
  obtain ⟨_, gr, _, _, _, rfl, _⟩ := (S.front 1 rfl).rdOpen
  have A := S.rowsAt eSok 2 rfl
  obtain rfl : xs.length = n := A.1
  have hcL := A.2.1
  obtain ⟨u, hu0⟩ : ∃ u, ((xs.map BS.l).flatMap frameB).length = u := ⟨_, rfl⟩
  have hfl := frameB_le l
  obtain ⟨f, hf0⟩ : ∃ f, (frameB l).length = f := ⟨_, rfl⟩
  obtain ⟨R, hR⟩ : ∃ R, rlogPut fr sz r (xs.map BS.l) l = R := ⟨_, rfl⟩
  rw [hR]
  unfold rlogPut at hR
  rw [hu0] at hu hR
  rw [hf0] at hfl hR
  have HR := hid hR
  obtain ⟨c, hc⟩ : ∃ c : Int, (if ((fr + u : Nat) : Int) < 0 then 1 else if (r.b.length : Int) < ((fr + u : Nat) : Int) + (f : Nat) then 3 else 0) = c := ⟨_, rfl⟩
  have HCd := hid hc
  clear hc
  have HU := hid hu0
  have HF := hid hf0
  have HM := hid hm
  have HAt := hid hA
  have HHd := hid hhd
  have HOk := hid hok
  have HN := hid hnil
  clear A hu0 hf0 hm hA hhd hok hnil hR
  go_enter Try.func50, Try.ntmps50
  go_wp2_with fail
  refine (rfrPut_any a l m cap w HM.out (by omega) (by exact HAt.out w [_, _, _] S)).mono ?_
  rintro e w1 ⟨a1, c1, rfl, ho1, hb1⟩
  have S1' := (S.bytes ho1 hb1).rot
  rw [HF.out] at S1' ⊢
  have S1 : St w0 w1 (cellsT g 90 (rlogC (.pointer (some ⟨gr, 0, none⟩)) fr sz (.slice aL xs.length cL)) :: rowsT eS bsRefs (.slice aL xs.length cL) xs :: rdT (.pointer (some ⟨gr, 0, none⟩)) r :: bytesT (.slice a1 f c1) (frameB l) :: tl) := ((S1'.front 2 rfl).front 3 rfl).front 3 rfl
  clear ho1 hb1 S1'
  by_cases h0 : f = 0
  · have g0 : ((f : Int) == 0) = true := by rw [h0]; rfl
    have hR := HR.out
    rw [if_pos h0] at hR
    have HR2 := hid hR
    clear h0 hR
    go_wp2
    go_ret
    rw [← HR2.out]
    exact ⟨xs, aL, cL, rfl, rfl, HHd.out, ((S1.front 3 rfl).tail : St w0 w1 (_ :: _ :: _ :: tl)).swap23⟩
  have g0 : ((f : Int) == 0) = false := by simpa using h0
  have c2 : Hid (∀ w', St w0 w' (cellsT g 90 (rlogC (.pointer (some ⟨gr, 0, none⟩)) fr sz (.slice aL xs.length cL)) :: rowsT eS bsRefs (.slice aL xs.length cL) xs :: rdT (.pointer (some ⟨gr, 0, none⟩)) r :: bytesT (.slice a1 f c1) (frameB l) :: tl) → w'.cell? ⟨g, 0, none⟩ = some (.pointer (some ⟨gr, 0, none⟩)) ∧ w'.cell? ⟨g, 1, none⟩ = some (.int .i64 (fr : Int)) ∧ w'.cell? ⟨g, 2, none⟩ = some (.int .i64 (sz : Int))) :=
    fun w' S' => ⟨S'.cell 0 rfl 0 rfl, S'.cell 0 rfl 1 rfl, S'.cell 0 rfl 2 rfl⟩
  have t1 : IntKind.i64.wrap ((sz : Int) - (u : Int)) = ((sz - u : Nat) : Int) := by rw [IntKind.wrap_i64]; omega
  have t2 : IntKind.i64.wrap ((fr : Int) + (u : Int)) = ((fr + u : Nat) : Int) := by rw [IntKind.wrap_i64]; omega
  by_cases h1 : sz < f + u
  · have hR := HR.out
    rw [if_neg h0, if_pos h1] at hR
    have HR2 := hid hR
    clear hR
    have g1 : decide (((sz - u : Nat) : Int) < (f : Int)) = true := decide_eq_true (by omega)
    go_wp2_with fail
    refine wp_region_held_drew (S := (fun w' => w'.cell? ⟨g, 0, none⟩ = some (.pointer (some ⟨gr, 0, none⟩)) ∧ w'.cell? ⟨g, 1, none⟩ = some (.int .i64 (fr : Int)) ∧ w'.cell? ⟨g, 2, none⟩ = some (.int .i64 (sz : Int)))) (by kernel_rfl) (by exact c2.out _ S1.drew) (fun hHeld => ?_)
    change wpAnyH _ _ _ _ _ 10 (Array.replicate 10 false) _ _
    refine wpAnyH_take (i := 0) (v := ?v19) (ops_at rfl) (by kernel_rfl) (by kernel_rfl) (by kernel_rfl) (fun _ _ _ h => h) (Or.inl ⟨by rfl, ?hy19⟩) (by assumption) ?rest19
    case hy19 => intro w' hSw; (try dsimp only at hSw); go_simp; try with_reducible rfl
    try simp only [Act.put, List.setIfInBounds_toArray, List.set_cons_zero, List.set_cons_succ]
    refine wpAnyH_take (i := 1) (v := ?v20) (ops_at rfl) (by kernel_rfl) (by kernel_rfl) (by kernel_rfl) (fun _ _ _ h => h) (Or.inl ⟨by rfl, ?hy20⟩) (by assumption) ?rest20
    case hy20 => intro w' hSw; (try dsimp only at hSw); go_simp; try with_reducible rfl
    try simp only [Act.put, List.setIfInBounds_toArray, List.set_cons_zero, List.set_cons_succ]
    refine wpAnyH_take (i := 2) (v := ?v21) (ops_at rfl) (by kernel_rfl) (by kernel_rfl) (by kernel_rfl) (fun _ _ _ h => h) (Or.inl ⟨by rfl, ?hy21⟩) (by assumption) ?rest21
    case hy21 => intro w' hSw; (try dsimp only at hSw); go_simp; try with_reducible rfl
    try simp only [Act.put, List.setIfInBounds_toArray, List.set_cons_zero, List.set_cons_succ]
    refine wpAnyH_take (i := 3) (v := ?v22) (ops_at rfl) (by kernel_rfl) (by kernel_rfl) (by kernel_rfl) (fun _ _ _ h => h) (Or.inl ⟨by rfl, ?hy22⟩) (by assumption) ?rest22
    case hy22 => intro w' hSw; (try dsimp only at hSw); go_simp; try with_reducible rfl
    try simp only [Act.put, List.setIfInBounds_toArray, List.set_cons_zero, List.set_cons_succ]
    refine wpAnyH_take (i := 4) (v := ?v23) (ops_at rfl) (by kernel_rfl) (by kernel_rfl) (by kernel_rfl) (fun _ _ _ h => h) (Or.inl ⟨by rfl, ?hy23⟩) (by assumption) ?rest23
    case hy23 => intro w' hSw; (try dsimp only at hSw); go_simp; try with_reducible rfl
    try simp only [Act.put, List.setIfInBounds_toArray, List.set_cons_zero, List.set_cons_succ]
    refine wpAnyH_take (i := 5) (v := ?v24) (ops_at rfl) (by kernel_rfl) (by kernel_rfl) (by kernel_rfl) (fun _ _ _ h => h) (Or.inl ⟨by rfl, ?hy24⟩) (by assumption) ?rest24
    case hy24 => intro w' hSw; (try dsimp only at hSw); go_simp; try with_reducible rfl
    try simp only [Act.put, List.setIfInBounds_toArray, List.set_cons_zero, List.set_cons_succ]
    refine wpAnyH_take (i := 6) (v := ?v25) (ops_at rfl) (by kernel_rfl) (by kernel_rfl) (by kernel_rfl) (fun _ _ _ h => h) (Or.inl ⟨by rfl, ?hy25⟩) (by assumption) ?rest25
    case hy25 => intro w' hSw; (try dsimp only at hSw); go_simp; try with_reducible rfl
    try simp only [Act.put, List.setIfInBounds_toArray, List.set_cons_zero, List.set_cons_succ]
    refine wpAnyH_ready (rs := [7]) (by kernel_rfl) (by simp) ?_
    refine AllReadyH.cons (ops_at rfl) (fun K hK => ?_) AllReadyH.nil
    go_simp
    refine (rUsed_any (by exact S1.drew) u HU.out (by omega) HHd.out HOk.out).mono ?_
    rintro e w2 ⟨rfl, S2⟩
    refine hK.out _ _ (by exact c2.out _ S2) (fun hHeld => ?_)
    clear hK K
    try simp only [Act.put, List.setIfInBounds_toArray, List.set_cons_zero, List.set_cons_succ]
    refine wpAnyH_take (i := 8) (v := ?v27) (ops_at rfl) (by kernel_rfl) (by kernel_rfl) (by kernel_rfl) (fun _ _ _ h => h) (Or.inl ⟨by rfl, ?hy27⟩) (by assumption) ?rest27
    case hy27 => intro w' hSw; (try dsimp only at hSw); go_simp; try with_reducible rfl
    try simp only [Act.put, List.setIfInBounds_toArray, List.set_cons_zero, List.set_cons_succ]
    refine wpAnyH_take (i := 9) (v := ?v28) (ops_at rfl) (by kernel_rfl) (by kernel_rfl) (by kernel_rfl) (fun _ _ _ h => h) (Or.inl ⟨by rfl, ?hy28⟩) (by assumption) ?rest28
    case hy28 => intro w' hSw; (try dsimp only at hSw); go_simp; try with_reducible rfl
    try simp only [Act.put, List.setIfInBounds_toArray, List.set_cons_zero, List.set_cons_succ]
    refine wpAnyH_done (by kernel_rfl) ?_ _
    go_wp2
    go_ret
    rw [← HR2.out]
    exact ⟨xs, aL, cL, rfl, rfl, HHd.out, ((S2.front 3 rfl).tail : St w0 w2 (_ :: _ :: _ :: tl)).swap23⟩
  have hR := HR.out
  rw [if_neg h0, if_neg h1] at hR
  have HR2 := hid hR
  clear hR
  have g1 : decide (((sz - u : Nat) : Int) < (f : Int)) = false := decide_eq_false (by omega)
  go_wp2_with fail
  refine wp_region_held_drew (S := (fun w' => w'.cell? ⟨g, 0, none⟩ = some (.pointer (some ⟨gr, 0, none⟩)) ∧ w'.cell? ⟨g, 1, none⟩ = some (.int .i64 (fr : Int)) ∧ w'.cell? ⟨g, 2, none⟩ = some (.int .i64 (sz : Int)))) (by kernel_rfl) (by exact c2.out _ S1.drew) (fun hHeld => ?_)
  change wpAnyH _ _ _ _ _ 10 (Array.replicate 10 false) _ _
  refine wpAnyH_take (i := 0) (v := ?v29) (ops_at rfl) (by kernel_rfl) (by kernel_rfl) (by kernel_rfl) (fun _ _ _ h => h) (Or.inl ⟨by rfl, ?hy29⟩) (by assumption) ?rest29
  case hy29 => intro w' hSw; (try dsimp only at hSw); go_simp; try with_reducible rfl
  try simp only [Act.put, List.setIfInBounds_toArray, List.set_cons_zero, List.set_cons_succ]
  refine wpAnyH_take (i := 1) (v := ?v30) (ops_at rfl) (by kernel_rfl) (by kernel_rfl) (by kernel_rfl) (fun _ _ _ h => h) (Or.inl ⟨by rfl, ?hy30⟩) (by assumption) ?rest30
  case hy30 => intro w' hSw; (try dsimp only at hSw); go_simp; try with_reducible rfl
  try simp only [Act.put, List.setIfInBounds_toArray, List.set_cons_zero, List.set_cons_succ]
  refine wpAnyH_take (i := 2) (v := ?v31) (ops_at rfl) (by kernel_rfl) (by kernel_rfl) (by kernel_rfl) (fun _ _ _ h => h) (Or.inl ⟨by rfl, ?hy31⟩) (by assumption) ?rest31
  case hy31 => intro w' hSw; (try dsimp only at hSw); go_simp; try with_reducible rfl
  try simp only [Act.put, List.setIfInBounds_toArray, List.set_cons_zero, List.set_cons_succ]
  refine wpAnyH_take (i := 3) (v := ?v32) (ops_at rfl) (by kernel_rfl) (by kernel_rfl) (by kernel_rfl) (fun _ _ _ h => h) (Or.inl ⟨by rfl, ?hy32⟩) (by assumption) ?rest32
  case hy32 => intro w' hSw; (try dsimp only at hSw); go_simp; try with_reducible rfl
  try simp only [Act.put, List.setIfInBounds_toArray, List.set_cons_zero, List.set_cons_succ]
  refine wpAnyH_take (i := 4) (v := ?v33) (ops_at rfl) (by kernel_rfl) (by kernel_rfl) (by kernel_rfl) (fun _ _ _ h => h) (Or.inl ⟨by rfl, ?hy33⟩) (by assumption) ?rest33
  case hy33 => intro w' hSw; (try dsimp only at hSw); go_simp; try with_reducible rfl
  try simp only [Act.put, List.setIfInBounds_toArray, List.set_cons_zero, List.set_cons_succ]
  refine wpAnyH_take (i := 5) (v := ?v34) (ops_at rfl) (by kernel_rfl) (by kernel_rfl) (by kernel_rfl) (fun _ _ _ h => h) (Or.inl ⟨by rfl, ?hy34⟩) (by assumption) ?rest34
  case hy34 => intro w' hSw; (try dsimp only at hSw); go_simp; try with_reducible rfl
  try simp only [Act.put, List.setIfInBounds_toArray, List.set_cons_zero, List.set_cons_succ]
  refine wpAnyH_take (i := 6) (v := ?v35) (ops_at rfl) (by kernel_rfl) (by kernel_rfl) (by kernel_rfl) (fun _ _ _ h => h) (Or.inl ⟨by rfl, ?hy35⟩) (by assumption) ?rest35
  case hy35 => intro w' hSw; (try dsimp only at hSw); go_simp; try with_reducible rfl
  try simp only [Act.put, List.setIfInBounds_toArray, List.set_cons_zero, List.set_cons_succ]
  refine wpAnyH_ready (rs := [7]) (by kernel_rfl) (by simp) ?_
  refine AllReadyH.cons (ops_at rfl) (fun K hK => ?_) AllReadyH.nil
  go_simp
  refine (rUsed_any (by exact S1.drew) u HU.out (by omega) HHd.out HOk.out).mono ?_
  rintro e w2 ⟨rfl, S2⟩
  refine hK.out _ _ (by exact c2.out _ S2) (fun hHeld => ?_)
  clear hK K
  try simp only [Act.put, List.setIfInBounds_toArray, List.set_cons_zero, List.set_cons_succ]
  refine wpAnyH_take (i := 8) (v := ?v37) (ops_at rfl) (by kernel_rfl) (by kernel_rfl) (by kernel_rfl) (fun _ _ _ h => h) (Or.inl ⟨by rfl, ?hy37⟩) (by assumption) ?rest37
  case hy37 => intro w' hSw; (try dsimp only at hSw); go_simp; try with_reducible rfl
  try simp only [Act.put, List.setIfInBounds_toArray, List.set_cons_zero, List.set_cons_succ]
  refine wpAnyH_take (i := 9) (v := ?v38) (ops_at rfl) (by kernel_rfl) (by kernel_rfl) (by kernel_rfl) (fun _ _ _ h => h) (Or.inl ⟨by rfl, ?hy38⟩) (by assumption) ?rest38
  case hy38 => intro w' hSw; (try dsimp only at hSw); go_simp; try with_reducible rfl
  try simp only [Act.put, List.setIfInBounds_toArray, List.set_cons_zero, List.set_cons_succ]
  refine wpAnyH_done (by kernel_rfl) ?_ _
  go_wp2_with fail
  refine wp_region_held_drew (S := (fun w' => w'.cell? ⟨g, 0, none⟩ = some (.pointer (some ⟨gr, 0, none⟩)) ∧ w'.cell? ⟨g, 1, none⟩ = some (.int .i64 (fr : Int)) ∧ w'.cell? ⟨g, 2, none⟩ = some (.int .i64 (sz : Int)))) (by kernel_rfl) (by exact c2.out _ S2.drew) (fun hHeld => ?_)
  change wpAnyH _ _ _ _ _ 13 (Array.replicate 13 false) _ _
  refine wpAnyH_take (i := 0) (v := ?v39) (ops_at rfl) (by kernel_rfl) (by kernel_rfl) (by kernel_rfl) (fun _ _ _ h => h) (Or.inl ⟨by rfl, ?hy39⟩) (by assumption) ?rest39
  case hy39 => intro w' hSw; (try dsimp only at hSw); go_simp; try with_reducible rfl
  try simp only [Act.put, List.setIfInBounds_toArray, List.set_cons_zero, List.set_cons_succ]
  refine wpAnyH_take (i := 1) (v := ?v40) (ops_at rfl) (by kernel_rfl) (by kernel_rfl) (by kernel_rfl) (fun _ _ _ h => h) (Or.inl ⟨by rfl, ?hy40⟩) (by assumption) ?rest40
  case hy40 => intro w' hSw; (try dsimp only at hSw); go_simp; try with_reducible rfl
  try simp only [Act.put, List.setIfInBounds_toArray, List.set_cons_zero, List.set_cons_succ]
  refine wpAnyH_take (i := 2) (v := ?v41) (ops_at rfl) (by kernel_rfl) (by kernel_rfl) (by kernel_rfl) (fun _ _ _ h => h) (Or.inl ⟨by rfl, ?hy41⟩) (by assumption) ?rest41
  case hy41 => intro w' hSw; (try dsimp only at hSw); go_simp; try with_reducible rfl
  try simp only [Act.put, List.setIfInBounds_toArray, List.set_cons_zero, List.set_cons_succ]
  refine wpAnyH_take (i := 3) (v := ?v42) (ops_at rfl) (by kernel_rfl) (by kernel_rfl) (by kernel_rfl) (fun _ _ _ h => h) (Or.inl ⟨by rfl, ?hy42⟩) (by assumption) ?rest42
  case hy42 => intro w' hSw; (try dsimp only at hSw); go_simp; try with_reducible rfl
  try simp only [Act.put, List.setIfInBounds_toArray, List.set_cons_zero, List.set_cons_succ]
  refine wpAnyH_take (i := 4) (v := ?v43) (ops_at rfl) (by kernel_rfl) (by kernel_rfl) (by kernel_rfl) (fun _ _ _ h => h) (Or.inl ⟨by rfl, ?hy43⟩) (by assumption) ?rest43
  case hy43 => intro w' hSw; (try dsimp only at hSw); go_simp; try with_reducible rfl
  try simp only [Act.put, List.setIfInBounds_toArray, List.set_cons_zero, List.set_cons_succ]
  refine wpAnyH_take (i := 5) (v := ?v44) (ops_at rfl) (by kernel_rfl) (by kernel_rfl) (by kernel_rfl) (fun _ _ _ h => h) (Or.inl ⟨by rfl, ?hy44⟩) (by assumption) ?rest44
  case hy44 => intro w' hSw; (try dsimp only at hSw); go_simp; try with_reducible rfl
  try simp only [Act.put, List.setIfInBounds_toArray, List.set_cons_zero, List.set_cons_succ]
  refine wpAnyH_take (i := 6) (v := ?v45) (ops_at rfl) (by kernel_rfl) (by kernel_rfl) (by kernel_rfl) (fun _ _ _ h => h) (Or.inl ⟨by rfl, ?hy45⟩) (by assumption) ?rest45
  case hy45 => intro w' hSw; (try dsimp only at hSw); go_simp; try with_reducible rfl
  try simp only [Act.put, List.setIfInBounds_toArray, List.set_cons_zero, List.set_cons_succ]
  refine wpAnyH_take (i := 7) (v := ?v46) (ops_at rfl) (by kernel_rfl) (by kernel_rfl) (by kernel_rfl) (fun _ _ _ h => h) (Or.inl ⟨by rfl, ?hy46⟩) (by assumption) ?rest46
  case hy46 => intro w' hSw; (try dsimp only at hSw); go_simp; try with_reducible rfl
  try simp only [Act.put, List.setIfInBounds_toArray, List.set_cons_zero, List.set_cons_succ]
  refine wpAnyH_take (i := 8) (v := ?v47) (ops_at rfl) (by kernel_rfl) (by kernel_rfl) (by kernel_rfl) (fun _ _ _ h => h) (Or.inl ⟨by rfl, ?hy47⟩) (by assumption) ?rest47
  case hy47 => intro w' hSw; (try dsimp only at hSw); go_simp; try with_reducible rfl
  try simp only [Act.put, List.setIfInBounds_toArray, List.set_cons_zero, List.set_cons_succ]
  refine wpAnyH_take (i := 11) (v := ?v48) (ops_at rfl) (by kernel_rfl) (by kernel_rfl) (by kernel_rfl) (fun _ _ _ h => h) (Or.inl ⟨by rfl, ?hy48⟩) (by assumption) ?rest48
  case hy48 => intro w' hSw; (try dsimp only at hSw); go_simp; try with_reducible rfl
  try simp only [Act.put, List.setIfInBounds_toArray, List.set_cons_zero, List.set_cons_succ]
  refine wpAnyH_ready (rs := [9]) (by kernel_rfl) (by simp) ?_
  refine AllReadyH.cons (ops_at rfl) (fun K hK => ?_) AllReadyH.nil
  go_simp
  refine (rUsed_any (by exact S2.drew) u HU.out (by omega) HHd.out HOk.out).mono ?_
  rintro e w3 ⟨rfl, S3⟩
  refine hK.out _ _ (by exact c2.out _ S3) (fun hHeld => ?_)
  clear hK K
  try simp only [Act.put, List.setIfInBounds_toArray, List.set_cons_zero, List.set_cons_succ]
  refine wpAnyH_take (i := 10) (v := ?v50) (ops_at rfl) (by kernel_rfl) (by kernel_rfl) (by kernel_rfl) (fun _ _ _ h => h) (Or.inl ⟨by rfl, ?hy50⟩) (by assumption) ?rest50
  case hy50 => intro w' hSw; (try dsimp only at hSw); go_simp; try with_reducible rfl
  try simp only [Act.put, List.setIfInBounds_toArray, List.set_cons_zero, List.set_cons_succ]
  refine wpAnyH_ready (rs := [12]) (by kernel_rfl) (by simp) ?_
  refine AllReadyH.cons (ops_at rfl) (fun K hK => ?_) AllReadyH.nil
  go_simp
  refine (rdwrite_any (by exact S3.front 2 rfl) _ _ (frameB l) f c1 c HCd.out HF.out (by omega) (by omega) (by exact Reads.at 2 rfl)).mono ?_
  rintro e w4 ⟨rfl, S4'⟩
  have S4 : St w0 w4 (cellsT g 90 (rlogC (.pointer (some ⟨gr, 0, none⟩)) fr sz (.slice aL xs.length cL)) :: rowsT eS bsRefs (.slice aL xs.length cL) xs :: rdT (.pointer (some ⟨gr, 0, none⟩)) (r.write ((fr + u : Nat) : Int) (frameB l)) :: tl) := by
    exact ((S4'.front 3 rfl).tail.front 1 rfl : St w0 w4 (_ :: _ :: _ :: tl)).swap23
  refine hK.out _ _ (by exact ⟨S4.cell 0 rfl 0 rfl, S4.cell 0 rfl 1 rfl, S4.cell 0 rfl 2 rfl⟩) (fun hHeld => ?_)
  clear hK K
  try simp only [Act.put, List.setIfInBounds_toArray, List.set_cons_zero, List.set_cons_succ]
  refine wpAnyH_done (by kernel_rfl) ?_ _
  have c3 := S4.cell 0 rfl 3 rfl
  have ca : ∀ o : Obj, (w4.alloc o).cell? ⟨g, 3, none⟩ = _ := fun o => (S4.alloc o).cell 0 rfl 3 rfl
  go_wp2_with fail
  go_region_law (first
    | (refine step_app (by rfl) (.tmp 39) (.tmp 40) 27 27 27 rfl rfl _ _ rfl rfl (S4.drew.lit0.rot.app 0 rfl a l m cap HM.out (by exact HAt.out _ [_, _, _, _] S4.drew.lit0.rot) m (by simp) (by omega)) ?_; rintro v5 w5 ⟨⟨a5, c5, rfl⟩, S5⟩; have d5 := S5.cell 1 rfl 3 rfl; have da : ∀ o : Obj, (w5.alloc o).cell? ⟨g, 3, none⟩ = _ := fun o => (S5.alloc o).cell 1 rfl 3 rfl; have hsl5 := S5.slA 0 rfl)
    | (refine step_app (by rfl) (.tmp 38) (.tmp 42) 22 22 22 rfl rfl _ _ rfl rfl (St.rowsApp eSok (S5.front 2 rfl) ⟨a5, m, c5, l⟩ rfl w5.heap.size rfl _ (by rfl) (xs.length + 1) rfl (by show (xs.length + 1) * 24 ≤ _; omega) (by unfold maxLen; omega)) ?_; rintro v6 w6 ⟨⟨a6, c6, rfl⟩, S6⟩; have f6 := S6.frozen 1 rfl 3; have d6 := S6.cell 1 rfl 3 rfl)
    | fail)
  all_goals (
    go_wp2
    go_ret
    rw [← HR2.out]
    refine ⟨xs ++ [⟨a5, m, c5, l⟩], a6, c6, rfl, by rw [List.map_append]; rfl, ?_, ?_⟩
    · intro x hx
      rcases List.mem_append.1 hx with hx | hx
      · exact HHd.out x hx
      · rw [List.mem_singleton] at hx; subst hx; exact ⟨HM.out, hsl5.2.1, hsl5.2.2.1, hsl5.2.2.2.1⟩
    · rw [List.length_append]
      exact ((S6.setCell 1 rfl 3 (.slice a6 (xs.length + 1) c6)).front 1 rfl : St w0 _ (_ :: _ :: _ :: tl)).swap23)
set_option maxRecDepth 10000 in
set_option maxHeartbeats 1600000 in
theorem rClear_any {aL : Option Addr} {n cL : Nat} (S : St w0 w (cellsT g 90 (rlogC pr fr sz vL) :: rdT pr r :: rowsT eS bsRefs vL xs :: tl)) (hf : fr + sz ≤ 65536) (hps : r.ps.length ≤ 10000000) (hs : r.syncs < 100000000) :
    Calls Try.prog 45 #[.pointer (some ⟨g, 0, none⟩)] w fun e w' => e = .returned (.tuple #[]) ∧
      St w0 w' (cellsT g 90 (rlogC pr fr sz (.slice none 0 0)) :: rdT pr (r.nought fr sz 0) :: rowsT eS bsRefs (.slice none 0 0) [] :: tl) := by
  have f3 := S.frozen 0 rfl 3
  have c3 := S.cell 0 rfl 3 rfl
  have S1 : St w0 (w.setCell ⟨g, 3, none⟩ (.slice none 0 0)) (cellsT g 90 (rlogC pr fr sz (.slice none 0 0)) :: rdT pr r :: rowsT eS bsRefs (.slice none 0 0) [] :: tl) :=
    (((((S.setCell 0 rfl 3 (.slice none 0 0)).front 2 rfl).tail : St w0 _ (_ :: _ :: tl)).rowsNil.front 1 rfl) : St w0 _ (_ :: _ :: _ :: tl)).swap23
  go_enter Try.func45, Try.ntmps45
  go_wp2_with fail
  refine (rzero_any (by exact S1) 0 (Nat.zero_le _) hf hps hs).mono ?_
  rintro e w2 ⟨rfl, S2⟩
  go_wp2
  refine bodyPost_end (results_none rfl _ _ _) rfl ⟨rfl, S2⟩
end

end Go.Proofs.Ytmfbbonppmhabaa
