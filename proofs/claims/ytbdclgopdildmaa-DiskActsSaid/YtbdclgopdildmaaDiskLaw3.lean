/- DiskActs. -/
import Derived.Test.YtbdclgopdildmaaDiskActs
import Derived.Test.YtbdclgopdildmaaDiskRel
import Derived.Test.YtbdclgopdildmaaStep
namespace Go.Proofs.Ytbdclgopdildmaa
set_option linter.unusedVariables false
set_option linter.unusedSimpArgs false
open Go.RowKit

theorem nil_sync (w : World) : Calls Try.prog 16 #[.pointer none] w fun e w' => e = .returned (.tuple #[]) ∧ w = w' := by
  go_enter Try.func16, Try.ntmps16
  go_wp2
  exact bodyPost_ret (results_none rfl _ _ _) rfl ⟨rfl, rfl⟩
theorem nil_crash (k : Int) (w : World) : Calls Try.prog 17 #[.pointer none, .int .i64 k] w fun e w' => e = .returned (.tuple #[]) ∧ w = w' := by
  go_enter Try.func17, Try.ntmps17
  go_wp2
  exact bodyPost_end (results_none rfl _ _ _) rfl ⟨rfl, rfl⟩
theorem nil_write (k : Int) (v : Value) (w : World) : Calls Try.prog 18 #[.pointer none, .int .i64 k, v] w fun e w' => e = .returned (.int .i64 1) ∧ w = w' := by
  go_enter Try.func18, Try.ntmps18
  go_wp2
  go_ret
  exact ⟨rfl, rfl⟩
theorem nil_bytes (w : World) : Calls Try.prog 19 #[.pointer none] w fun e w' => e = .returned (.slice none 0 0) ∧ w = w' := by
  go_enter Try.func19, Try.ntmps19
  go_wp2
  go_ret
  exact ⟨rfl, rfl⟩
theorem nil_size (w : World) : Calls Try.prog 20 #[.pointer none] w fun e w' => e = .returned (.int .i64 0) ∧ w = w' := by
  go_enter Try.func20, Try.ntmps20
  go_wp2
  go_ret
  exact ⟨rfl, rfl⟩
theorem nil_waits (w : World) : Calls Try.prog 21 #[.pointer none] w fun e w' => e = .returned (.int .i64 0) ∧ w = w' := by
  go_enter Try.func21, Try.ntmps21
  go_wp2
  go_ret
  exact ⟨rfl, rfl⟩
theorem nil_syncs (w : World) : Calls Try.prog 22 #[.pointer none] w fun e w' => e = .returned (.int .i64 0) ∧ w = w' := by
  go_enter Try.func22, Try.ntmps22
  go_wp2
  go_ret
  exact ⟨rfl, rfl⟩

structure RelAt (d : DSt) (r : RD) (n k : Nat) : Prop where
  rel : Rel d r
  len : d.lasts.length = n
  waits : d.waits.length ≤ k
  ps : r.ps.length ≤ k * 300
  syncs : d.syncs ≤ k
  fit : ∀ x ∈ d.waits, x.1 + x.2.length ≤ d.lasts.length
theorem RelAt.act {d : DSt} {r : RD} {n k : Nat} (h : RelAt d r n k) (x : DAct) (hx : x.b.length ≤ 300) : RelAt (d.act x) (r.act x) n (k + 1) := by
  unfold DSt.act RD.act
  have hl := dDone_len d.waits d.lasts
  by_cases q0 : x.kind = 0
  · rw [if_pos q0, if_pos q0]
    refine ⟨h.rel.write _ _, by rw [DSt.write_lasts]; exact h.len, ?_, ?_, by rw [DSt.write_syncs]; have := h.syncs; omega, ?_⟩
    · have := DSt.write_waits d x.at_ x.b; have := h.waits; omega
    · unfold RD.write
      have h3 := h.ps
      rw [Nat.succ_mul]
      split
      · exact Nat.le_trans h3 (Nat.le_add_right _ _)
      · rw [List.length_append, List.length_map, List.length_range]; exact Nat.add_le_add h3 hx
    · rw [DSt.write_lasts]
      unfold DSt.write
      split
      · rename_i hc
        have hz := DSt.can_zero hc
        intro y hy
        rcases List.mem_append.1 hy with hy | hy
        · exact h.fit y hy
        · simp at hy; subst hy; exact hz.2
      · exact h.fit
  rw [if_neg q0, if_neg q0]
  by_cases q1 : x.kind = 1
  · rw [if_pos q1, if_pos q1]
    exact ⟨h.rel.sync h.fit, (hl _ h.fit).trans h.len, Nat.zero_le _, Nat.zero_le _, by have := h.syncs; show d.syncs + 1 ≤ _; omega, fun y hy => by simp [DSt.sync, DSt.crash] at hy⟩
  rw [if_neg q1, if_neg q1]
  by_cases q2 : x.kind = 2
  · rw [if_pos q2, if_pos q2]
    exact ⟨h.rel.crash _ h.fit, (hl _ h.fit).trans h.len, Nat.zero_le _, Nat.zero_le _, by have := h.syncs; show d.syncs ≤ _; omega, fun y hy => by simp [DSt.crash] at hy⟩
  rw [if_neg q2, if_neg q2]
  exact ⟨h.rel, h.len, by have := h.waits; omega, by rw [Nat.succ_mul]; exact Nat.le_trans h.ps (Nat.le_add_right _ _), by have := h.syncs; omega, h.fit⟩

theorem St.rdCells {w0 w : World} {l : List Thing} (S : St w0 w l) (k : Nat) {g : Nat} {r : RD} (h : l[k]? = some (rdT (.pointer (some ⟨g, 0, none⟩)) r)) :
    ∃ a c, w.cell? ⟨g, 1, none⟩ = some (.slice a r.ps.length c) ∧ w.cell? ⟨g, 3, none⟩ = some (.int .i64 (r.syncs : Int)) := by
  obtain ⟨_, g', vb, va, vv, e, S1⟩ := (S.front k h).rdOpen
  cases e
  obtain ⟨a, c, rfl⟩ := S1.writtenG eIok 2 rfl (n := r.ps.length) (by simp [rdAt])
  exact ⟨a, c, S1.cell 0 rfl 1 rfl, S1.cell 0 rfl 3 rfl⟩

theorem hold2 {w w' : World} {a b : Addr} {u v : Value} (hb : Below w.heap.size w w') (h1 : w.cell? a = some u) (h2 : w.cell? b = some v) : w'.cell? a = some u ∧ w'.cell? b = some v :=
  ⟨(hb.cell (World.block_lt_of_cell? _ _ h1)).trans h1, (hb.cell (World.block_lt_of_cell? _ _ h2)).trans h2⟩

set_option maxRecDepth 10000 in
set_option maxHeartbeats 3200000 in
theorem diskActs_main (n : Nat) (h1 : 1 ≤ n) (h2 : n ≤ 300) (a : Option Addr) (L : List DAct) (m cap : Nat) (w : World) (hm : L.length = m) (hm1 : m ≤ maxLen) (hA : AtG eDA w a L) (hok : ∀ x ∈ L, DAct.Ok w x) (hf : few4 L = true) :
    Calls Try.prog 3 #[.int .i64 n, .slice a m cap] w fun e w' => e = .returned (.bool true) ∧ Below w.heap.size w w' := by
  unfold maxLen at hm1
  have HM := hid hm
  have HA := hid hA
  have HOk := hid hok
  have HF := hid hf
  have hfw := hf
  unfold few4 at hfw
  rw [Bool.and_eq_true, decide_eq_true_iff, List.all_eq_true, hm] at hfw
  have HF2 := hid hfw.2
  have hm60 := hfw.1
  have S0 := St.start w
  clear hm hA hok hf hfw
  go_enter Try.func3, Try.ntmps3
  go_wp2_with fail
  refine (alive4_any _).mono ?_
  rintro e w1 ⟨rfl, hb1⟩
  have S1 := S0.grow hb1
  go_wp2_with fail
  refine (few4_any a L m cap w1 HM.out (by unfold maxLen; omega) (by exact HA.out.all eDAok hb1)).mono ?_
  rintro e w2 ⟨rfl, rfl⟩
  rw [HF.out]
  clear hb1
  go_wp2_with fail
  refine (hnew S1 n h1 (by omega)).mono ?_
  rintro e w2 ⟨p, rfl, S2, -⟩
  go_wp2_with fail
  refine (rdnew_any S2 n (by omega)).mono ?_
  rintro e w3 ⟨q, rfl, S3, -⟩
  have S4 : St w w3 [diskT p (DSt.new n), rdT q ⟨List.replicate n 0, [], 0⟩] := S3.swap
  obtain ⟨_, g, _, _, _, rfl, _⟩ := S3.rdOpen
  go_wp2_with fail
  go_loopw [7] (fun i wr => ∃ (k : Nat) (d : DSt) (r : RD), k ≤ m ∧ i = .int .i64 k ∧ St w wr [diskT p d, rdT (.pointer (some ⟨g, 0, none⟩)) r] ∧ RelAt d r n k) (fun i _ => m - (intOf i).toNat)
  case atStart => exact ⟨0, _, _, Nat.zero_le _, rfl, S4, Rel.new n, by simp [DSt.new], Nat.zero_le _, Nat.zero_le _, Nat.zero_le _, fun x hx => by simp [DSt.new] at hx⟩
  case round =>
    obtain ⟨k, d, r, hk, rfl, Sk, hr⟩ := hrel
    have HR := hid hr
    clear hr
    by_cases hlt : k < m
    · have hkl : k < L.length := by rw [HM.out]; exact hlt
      have HAr := hid (HA.out.all eDAok Sk.fin)
      have i0 := fun wx => idxDA a m cap (fun h => HA.out.ok (by rw [HM.out]; exact h)) k k rfl hlt wx
      have HEl : Hid (∀ w', Below w.heap.size w w' → _ ∧ _ ∧ _) := fun w' hb => (HA.out.all eDAok hb).cell2 hkl
      have HX := hid (HOk.out _ (List.getElem_mem hkl))
      have HX3 := HF2.out _ (List.getElem_mem hkl)
      rw [decide_eq_true_iff] at HX3
      generalize L[k] = x at *
      generalize adr a (k * 3) = A at *
      have HR1 := hid (HR.out.act x (by rw [HX.out.len]; exact HX3))
      have hw1 : d.waits.length ≤ 1000000 := by have := HR.out.waits; omega
      have hp1 : r.ps.length ≤ 100000000 := by have := HR.out.ps; omega
      have hs1 : d.syncs < 1000000000 := by have := HR.out.syncs; omega
      have hw2 : (d.act x).waits.length ≤ 1000000 := by have := HR1.out.waits; omega
      have hp2 : (r.act x).ps.length ≤ 100000000 := by have := HR1.out.ps; omega
      have hs2 : (d.act x).syncs < 1000000000 := by have := HR1.out.syncs; omega
      have EB : Hid ((d.act x).bytes = (r.act x).bytes) := (HR1.out.rel.bytes HR1.out.fit).symm
      have EL : Hid ((d.act x).bytes.length = n) := by rw [Hid, DSt.bytes, dAll_len _ _ HR1.out.fit]; exact HR1.out.len
      have EW : Hid ((dWaits (d.act x).waits : Int) = ((r.act x).ps.length : Int)) := by rw [Hid, HR1.out.rel.waits]; simp [rdAt]
      have ES : Hid (((d.act x).syncs : Int) = ((r.act x).syncs : Int)) := by rw [Hid, HR1.out.rel.syncs]
      have ER : Hid ((r.act x).b.length = n) := by rw [Hid, HR1.out.rel.b]; exact HR1.out.len
      generalize hd' : d.act x = d' at *
      generalize hr' : r.act x = r' at *
      have HD := hid hd'
      have HRR := hid hr'
      clear hd' hr'
      go_wp2_with fail
      obtain ⟨y0, y1, y2⟩ := HEl.out _ Sk.drew.fin
      refine wp_region_held_drew (S := (fun _ => True)) (by kernel_rfl) (by trivial) (fun hHeld => ?_)
      change wpAnyH _ _ _ _ _ 41 (Array.replicate 41 false) _ _
      refine wpAnyH_take (i := 0) (v := ?v1) (ops_at rfl) (by kernel_rfl) (by kernel_rfl) (by kernel_rfl) (fun _ _ _ h => h) (Or.inl ⟨by rfl, ?hy1⟩) (by assumption) ?rest1
      case hy1 => intro w' hSw; (try dsimp only at hSw); go_simp; try with_reducible rfl
      try simp only [Act.put, List.setIfInBounds_toArray, List.set_cons_zero, List.set_cons_succ]
      refine wpAnyH_take (i := 1) (v := ?v2) (ops_at rfl) (by kernel_rfl) (by kernel_rfl) (by kernel_rfl) (fun _ _ _ h => h) (Or.inl ⟨by rfl, ?hy2⟩) (by assumption) ?rest2
      case hy2 => intro w' hSw; (try dsimp only at hSw); go_simp; try with_reducible rfl
      try simp only [Act.put, List.setIfInBounds_toArray, List.set_cons_zero, List.set_cons_succ]
      refine wpAnyH_take (i := 2) (v := ?v3) (ops_at rfl) (by kernel_rfl) (by kernel_rfl) (by kernel_rfl) (fun _ _ _ h => h) (Or.inl ⟨by rfl, ?hy3⟩) (by assumption) ?rest3
      case hy3 => intro w' hSw; (try dsimp only at hSw); go_simp; try with_reducible rfl
      try simp only [Act.put, List.setIfInBounds_toArray, List.set_cons_zero, List.set_cons_succ]
      refine wpAnyH_take (i := 3) (v := ?v4) (ops_at rfl) (by kernel_rfl) (by kernel_rfl) (by kernel_rfl) (fun _ _ _ h => h) (Or.inl ⟨by rfl, ?hy4⟩) (by assumption) ?rest4
      case hy4 => intro w' hSw; (try dsimp only at hSw); go_simp; try with_reducible rfl
      try simp only [Act.put, List.setIfInBounds_toArray, List.set_cons_zero, List.set_cons_succ]
      refine wpAnyH_take (i := 4) (v := ?v5) (ops_at rfl) (by kernel_rfl) (by kernel_rfl) (by kernel_rfl) (fun _ _ _ h => h) (Or.inl ⟨by rfl, ?hy5⟩) (by assumption) ?rest5
      case hy5 => intro w' hSw; (try dsimp only at hSw); go_simp; try with_reducible rfl
      try simp only [Act.put, List.setIfInBounds_toArray, List.set_cons_zero, List.set_cons_succ]
      refine wpAnyH_ready (rs := [5]) (by kernel_rfl) (by simp) ?_
      refine AllReadyH.cons (ops_at rfl) (fun K hK => ?_) AllReadyH.nil
      go_simp
      refine hK.out _ _ (by trivial) (fun hHeld => ?_)
      clear hK K
      try simp only [Act.put, List.setIfInBounds_toArray, List.set_cons_zero, List.set_cons_succ]
      refine wpAnyH_ready (rs := [6]) (by kernel_rfl) (by simp) ?_
      refine AllReadyH.cons (ops_at rfl) (fun K hK => ?_) AllReadyH.nil
      go_simp
      refine (do4_any (by exact Sk.drew) x HX.out.len HX3 HX.out.nil HX.out.at_ HX.out.k0 HX.out.k1 (by rw [HR.out.rel.b]) hw1 hp1 hs1 (by rw [HR.out.rel.syncs]; exact hs1)).mono ?_
      rintro e wa ⟨rfl, Sa⟩
      rw [HD.out, HRR.out] at Sa
      refine hK.out _ _ (by trivial) (fun hHeld => ?_)
      clear hK K
      try simp only [Act.put, List.setIfInBounds_toArray, List.set_cons_zero, List.set_cons_succ]
      obtain ⟨a1, n1, z1, z3⟩ := Sa.rdCells 1 rfl
      have Z1 := hid z1
      have Z3 := hid z3
      clear z1 z3
      refine wpAnyH_mono (S := (fun w' => w'.cell? ⟨g, 1, none⟩ = some (.slice a1 r'.ps.length n1) ∧ w'.cell? ⟨g, 3, none⟩ = some (.int .i64 (r'.syncs : Int)))) (fun w h => trivial) _ _ _ _ ?_
      clear hHeld
      have hHeld : ((fun w' => w'.cell? ⟨g, 1, none⟩ = some (.slice a1 r'.ps.length n1) ∧ w'.cell? ⟨g, 3, none⟩ = some (.int .i64 (r'.syncs : Int)))) wa := by exact ⟨Z1.out, Z3.out⟩
      refine wpAnyH_take (i := 7) (v := ?v7) (ops_at rfl) (by kernel_rfl) (by kernel_rfl) (by kernel_rfl) (fun _ _ _ h => h) (Or.inl ⟨by rfl, ?hy7⟩) (by assumption) ?rest7
      case hy7 => intro w' hSw; (try dsimp only at hSw); go_simp; try with_reducible rfl
      try simp only [Act.put, List.setIfInBounds_toArray, List.set_cons_zero, List.set_cons_succ]
      refine wpAnyH_take (i := 8) (v := ?v8) (ops_at rfl) (by kernel_rfl) (by kernel_rfl) (by kernel_rfl) (fun _ _ _ h => h) (Or.inl ⟨by rfl, ?hy8⟩) (by assumption) ?rest8
      case hy8 => intro w' hSw; (try dsimp only at hSw); go_simp; try with_reducible rfl
      try simp only [Act.put, List.setIfInBounds_toArray, List.set_cons_zero, List.set_cons_succ]
      refine wpAnyH_take (i := 9) (v := ?v9) (ops_at rfl) (by kernel_rfl) (by kernel_rfl) (by kernel_rfl) (fun _ _ _ h => h) (Or.inl ⟨by rfl, ?hy9⟩) (by assumption) ?rest9
      case hy9 => intro w' hSw; (try dsimp only at hSw); go_simp; try with_reducible rfl
      try simp only [Act.put, List.setIfInBounds_toArray, List.set_cons_zero, List.set_cons_succ]
      refine wpAnyH_take (i := 11) (v := ?v10) (ops_at rfl) (by kernel_rfl) (by kernel_rfl) (by kernel_rfl) (fun _ _ _ h => h) (Or.inl ⟨by rfl, ?hy10⟩) (by assumption) ?rest10
      case hy10 => intro w' hSw; (try dsimp only at hSw); go_simp; try with_reducible rfl
      try simp only [Act.put, List.setIfInBounds_toArray, List.set_cons_zero, List.set_cons_succ]
      refine wpAnyH_ready (rs := [10]) (by kernel_rfl) (by simp) ?_
      refine AllReadyH.cons (ops_at rfl) (fun K hK => ?_) AllReadyH.nil
      go_simp
      refine (hbytes Sa 0 rfl hw2 n EL.out).mono ?_
      rintro e wb ⟨ab, cb, rfl, Sb, hbb⟩
      refine hK.out _ _ (by exact hold2 hbb Z1.out Z3.out) (fun hHeld => ?_)
      clear hK K
      try simp only [Act.put, List.setIfInBounds_toArray, List.set_cons_zero, List.set_cons_succ]
      refine wpAnyH_ready (rs := [12]) (by kernel_rfl) (by simp) ?_
      refine AllReadyH.cons (ops_at rfl) (fun K hK => ?_) AllReadyH.nil
      go_simp
      refine (rdbytes_any (Sb.front 1 rfl) n ER.out hp2).mono ?_
      rintro e wc ⟨ac, cc, rfl, Sc, hbc⟩
      refine hK.out _ _ (by exact hold2 (bst hbb hbc) Z1.out Z3.out) (fun hHeld => ?_)
      clear hK K
      try simp only [Act.put, List.setIfInBounds_toArray, List.set_cons_zero, List.set_cons_succ]
      refine wpAnyH_ready (rs := [13]) (by kernel_rfl) (by simp) ?_
      refine AllReadyH.cons (ops_at rfl) (fun K hK => ?_) AllReadyH.nil
      go_simp
      refine (hcmp Sc true _ _ d'.bytes r'.bytes n n _ _ (by rw [beq_iff_eq]; exact EB.out) EL.out (by rw [← EB.out]; exact EL.out) (by unfold maxLen; omega) (by unfold maxLen; omega) (by exact Sc.at 3 rfl) (by exact Sc.at 0 rfl)).mono ?_
      rintro e wd ⟨rfl, Sd, hbd⟩
      refine hK.out _ _ (by exact hold2 (bst hbb (bst hbc hbd)) Z1.out Z3.out) (fun hHeld => ?_)
      clear hK K
      try simp only [Act.put, List.setIfInBounds_toArray, List.set_cons_zero, List.set_cons_succ]
      refine wpAnyH_take (i := 14) (v := ?v14) (ops_at rfl) (by kernel_rfl) (by kernel_rfl) (by kernel_rfl) (fun _ _ _ h => h) (Or.inl ⟨by rfl, ?hy14⟩) (by assumption) ?rest14
      case hy14 => intro w' hSw; (try dsimp only at hSw); go_simp; try with_reducible rfl
      try simp only [Act.put, List.setIfInBounds_toArray, List.set_cons_zero, List.set_cons_succ]
      refine wpAnyH_take (i := 15) (v := ?v15) (ops_at rfl) (by kernel_rfl) (by kernel_rfl) (by kernel_rfl) (fun _ _ _ h => h) (Or.inl ⟨by rfl, ?hy15⟩) (by assumption) ?rest15
      case hy15 => intro w' hSw; (try dsimp only at hSw); go_simp; try with_reducible rfl
      try simp only [Act.put, List.setIfInBounds_toArray, List.set_cons_zero, List.set_cons_succ]
      refine wpAnyH_take (i := 16) (v := ?v16) (ops_at rfl) (by kernel_rfl) (by kernel_rfl) (by kernel_rfl) (fun _ _ _ h => h) (Or.inl ⟨by rfl, ?hy16⟩) (by assumption) ?rest16
      case hy16 => intro w' hSw; (try dsimp only at hSw); go_simp; try with_reducible rfl
      try simp only [Act.put, List.setIfInBounds_toArray, List.set_cons_zero, List.set_cons_succ]
      refine wpAnyH_take (i := 17) (v := ?v17) (ops_at rfl) (by kernel_rfl) (by kernel_rfl) (by kernel_rfl) (fun _ _ _ h => h) (Or.inl ⟨by rfl, ?hy17⟩) (by assumption) ?rest17
      case hy17 => intro w' hSw; (try dsimp only at hSw); go_simp; try with_reducible rfl
      try simp only [Act.put, List.setIfInBounds_toArray, List.set_cons_zero, List.set_cons_succ]
      refine wpAnyH_take (i := 19) (v := ?v18) (ops_at rfl) (by kernel_rfl) (by kernel_rfl) (by kernel_rfl) (fun _ _ _ h => h) (Or.inl ⟨by rfl, ?hy18⟩) (by assumption) ?rest18
      case hy18 => intro w' hSw; (try dsimp only at hSw); go_simp; try with_reducible rfl
      try simp only [Act.put, List.setIfInBounds_toArray, List.set_cons_zero, List.set_cons_succ]
      refine wpAnyH_take (i := 20) (v := ?v19) (ops_at rfl) (by kernel_rfl) (by kernel_rfl) (by kernel_rfl) (fun _ _ _ h => h) (Or.inl ⟨by rfl, ?hy19⟩) (by assumption) ?rest19
      case hy19 => intro w' hSw; (try dsimp only at hSw); go_simp; try with_reducible rfl
      try simp only [Act.put, List.setIfInBounds_toArray, List.set_cons_zero, List.set_cons_succ]
      refine wpAnyH_take (i := 21) (v := ?v20) (ops_at rfl) (by kernel_rfl) (by kernel_rfl) (by kernel_rfl) (fun _ _ _ h => h) (Or.inl ⟨by rfl, ?hy20⟩) (by assumption) ?rest20
      case hy20 => intro w' hSw; (try dsimp only at hSw); go_simp; try with_reducible rfl
      try simp only [Act.put, List.setIfInBounds_toArray, List.set_cons_zero, List.set_cons_succ]
      refine wpAnyH_take (i := 22) (v := ?v21) (ops_at rfl) (by kernel_rfl) (by kernel_rfl) (by kernel_rfl) (fun _ _ _ h => h) (Or.inl ⟨by rfl, ?hy21⟩) (by assumption) ?rest21
      case hy21 => intro w' hSw; (try dsimp only at hSw); go_simp; try with_reducible rfl
      try simp only [Act.put, List.setIfInBounds_toArray, List.set_cons_zero, List.set_cons_succ]
      refine wpAnyH_take (i := 23) (v := ?v22) (ops_at rfl) (by kernel_rfl) (by kernel_rfl) (by kernel_rfl) (fun _ _ _ h => h) (Or.inl ⟨by rfl, ?hy22⟩) (by assumption) ?rest22
      case hy22 => intro w' hSw; (try dsimp only at hSw); go_simp; try with_reducible rfl
      try simp only [Act.put, List.setIfInBounds_toArray, List.set_cons_zero, List.set_cons_succ]
      refine wpAnyH_ready (rs := [18]) (by kernel_rfl) (by simp) ?_
      refine AllReadyH.cons (ops_at rfl) (fun K hK => ?_) AllReadyH.nil
      go_simp
      refine (hwaits Sd 2 rfl hw2 _ EW.out).mono ?_
      rintro e we ⟨rfl, Se, hbe⟩
      refine hK.out _ _ (by exact hold2 (bst hbb (bst hbc (bst hbd hbe))) Z1.out Z3.out) (fun hHeld => ?_)
      clear hK K
      try simp only [Act.put, List.setIfInBounds_toArray, List.set_cons_zero, List.set_cons_succ]
      refine wpAnyH_take (i := 24) (v := ?v24) (ops_at rfl) (by kernel_rfl) (by kernel_rfl) (by kernel_rfl) (fun _ _ _ h => h) (Or.inl ⟨by rfl, ?hy24⟩) (by assumption) ?rest24
      case hy24 => intro w' hSw; (try dsimp only at hSw); go_simp; try with_reducible rfl
      try simp only [Act.put, List.setIfInBounds_toArray, List.set_cons_zero, List.set_cons_succ]
      refine wpAnyH_take (i := 25) (v := ?v25) (ops_at rfl) (by kernel_rfl) (by kernel_rfl) (by kernel_rfl) (fun _ _ _ h => h) (Or.inl ⟨by rfl, ?hy25⟩) (by assumption) ?rest25
      case hy25 => intro w' hSw; (try dsimp only at hSw); go_simp; try with_reducible rfl
      try simp only [Act.put, List.setIfInBounds_toArray, List.set_cons_zero, List.set_cons_succ]
      refine wpAnyH_take (i := 26) (v := ?v26) (ops_at rfl) (by kernel_rfl) (by kernel_rfl) (by kernel_rfl) (fun _ _ _ h => h) (Or.inl ⟨by rfl, ?hy26⟩) (by assumption) ?rest26
      case hy26 => intro w' hSw; (try dsimp only at hSw); go_simp; try with_reducible rfl
      try simp only [Act.put, List.setIfInBounds_toArray, List.set_cons_zero, List.set_cons_succ]
      refine wpAnyH_take (i := 27) (v := ?v27) (ops_at rfl) (by kernel_rfl) (by kernel_rfl) (by kernel_rfl) (fun _ _ _ h => h) (Or.inl ⟨by rfl, ?hy27⟩) (by assumption) ?rest27
      case hy27 => intro w' hSw; (try dsimp only at hSw); go_simp; try with_reducible rfl
      try simp only [Act.put, List.setIfInBounds_toArray, List.set_cons_zero, List.set_cons_succ]
      refine wpAnyH_take (i := 29) (v := ?v28) (ops_at rfl) (by kernel_rfl) (by kernel_rfl) (by kernel_rfl) (fun _ _ _ h => h) (Or.inl ⟨by rfl, ?hy28⟩) (by assumption) ?rest28
      case hy28 => intro w' hSw; (try dsimp only at hSw); go_simp; try with_reducible rfl
      try simp only [Act.put, List.setIfInBounds_toArray, List.set_cons_zero, List.set_cons_succ]
      refine wpAnyH_take (i := 30) (v := ?v29) (ops_at rfl) (by kernel_rfl) (by kernel_rfl) (by kernel_rfl) (fun _ _ _ h => h) (Or.inl ⟨by rfl, ?hy29⟩) (by assumption) ?rest29
      case hy29 => intro w' hSw; (try dsimp only at hSw); go_simp; try with_reducible rfl
      try simp only [Act.put, List.setIfInBounds_toArray, List.set_cons_zero, List.set_cons_succ]
      refine wpAnyH_take (i := 31) (v := ?v30) (ops_at rfl) (by kernel_rfl) (by kernel_rfl) (by kernel_rfl) (fun _ _ _ h => h) (Or.inl ⟨by rfl, ?hy30⟩) (by assumption) ?rest30
      case hy30 => intro w' hSw; (try dsimp only at hSw); go_simp; try with_reducible rfl
      try simp only [Act.put, List.setIfInBounds_toArray, List.set_cons_zero, List.set_cons_succ]
      refine wpAnyH_take (i := 32) (v := ?v31) (ops_at rfl) (by kernel_rfl) (by kernel_rfl) (by kernel_rfl) (fun _ _ _ h => h) (Or.inl ⟨by rfl, ?hy31⟩) (by assumption) ?rest31
      case hy31 => intro w' hSw; (try dsimp only at hSw); go_simp; try with_reducible rfl
      try simp only [Act.put, List.setIfInBounds_toArray, List.set_cons_zero, List.set_cons_succ]
      refine wpAnyH_ready (rs := [28]) (by kernel_rfl) (by simp) ?_
      refine AllReadyH.cons (ops_at rfl) (fun K hK => ?_) AllReadyH.nil
      go_simp
      refine (hsyncs Se 2 rfl hs2 _ ES.out).mono ?_
      rintro e wf ⟨rfl, rfl⟩
      refine hK.out _ _ (by exact hold2 (bst hbb (bst hbc (bst hbd hbe))) Z1.out Z3.out) (fun hHeld => ?_)
      clear hK K
      try simp only [Act.put, List.setIfInBounds_toArray, List.set_cons_zero, List.set_cons_succ]
      refine wpAnyH_take (i := 33) (v := ?v33) (ops_at rfl) (by kernel_rfl) (by kernel_rfl) (by kernel_rfl) (fun _ _ _ h => h) (Or.inl ⟨by rfl, ?hy33⟩) (by assumption) ?rest33
      case hy33 => intro w' hSw; (try dsimp only at hSw); go_simp; try with_reducible rfl
      try simp only [Act.put, List.setIfInBounds_toArray, List.set_cons_zero, List.set_cons_succ]
      refine wpAnyH_take (i := 34) (v := ?v34) (ops_at rfl) (by kernel_rfl) (by kernel_rfl) (by kernel_rfl) (fun _ _ _ h => h) (Or.inl ⟨by rfl, ?hy34⟩) (by assumption) ?rest34
      case hy34 => intro w' hSw; (try dsimp only at hSw); go_simp; try with_reducible rfl
      try simp only [Act.put, List.setIfInBounds_toArray, List.set_cons_zero, List.set_cons_succ]
      refine wpAnyH_take (i := 35) (v := ?v35) (ops_at rfl) (by kernel_rfl) (by kernel_rfl) (by kernel_rfl) (fun _ _ _ h => h) (Or.inl ⟨by rfl, ?hy35⟩) (by assumption) ?rest35
      case hy35 => intro w' hSw; (try dsimp only at hSw); go_simp; try with_reducible rfl
      try simp only [Act.put, List.setIfInBounds_toArray, List.set_cons_zero, List.set_cons_succ]
      refine wpAnyH_take (i := 36) (v := ?v36) (ops_at rfl) (by kernel_rfl) (by kernel_rfl) (by kernel_rfl) (fun _ _ _ h => h) (Or.inl ⟨by rfl, ?hy36⟩) (by assumption) ?rest36
      case hy36 => intro w' hSw; (try dsimp only at hSw); go_simp; try with_reducible rfl
      try simp only [Act.put, List.setIfInBounds_toArray, List.set_cons_zero, List.set_cons_succ]
      refine wpAnyH_take (i := 38) (v := ?v37) (ops_at rfl) (by kernel_rfl) (by kernel_rfl) (by kernel_rfl) (fun _ _ _ h => h) (Or.inl ⟨by rfl, ?hy37⟩) (by assumption) ?rest37
      case hy37 => intro w' hSw; (try dsimp only at hSw); go_simp; try with_reducible rfl
      try simp only [Act.put, List.setIfInBounds_toArray, List.set_cons_zero, List.set_cons_succ]
      refine wpAnyH_ready (rs := [37]) (by kernel_rfl) (by simp) ?_
      refine AllReadyH.cons (ops_at rfl) (fun K hK => ?_) AllReadyH.nil
      go_simp
      refine (hsize Se 2 rfl n (by rw [← EL.out, (Se.disk 2 rfl).2.2.2])).mono ?_
      rintro e wf ⟨rfl, rfl⟩
      refine hK.out _ _ (by exact hold2 (bst hbb (bst hbc (bst hbd hbe))) Z1.out Z3.out) (fun hHeld => ?_)
      clear hK K
      try simp only [Act.put, List.setIfInBounds_toArray, List.set_cons_zero, List.set_cons_succ]
      refine wpAnyH_take (i := 39) (v := ?v39) (ops_at rfl) (by kernel_rfl) (by kernel_rfl) (by kernel_rfl) (fun _ _ _ h => h) (Or.inl ⟨by rfl, ?hy39⟩) (by assumption) ?rest39
      case hy39 => intro w' hSw; (try dsimp only at hSw); go_simp; try with_reducible rfl
      try simp only [Act.put, List.setIfInBounds_toArray, List.set_cons_zero, List.set_cons_succ]
      refine wpAnyH_take (i := 40) (v := ?v40) (ops_at rfl) (by kernel_rfl) (by kernel_rfl) (by kernel_rfl) (fun _ _ _ h => h) (Or.inl ⟨by rfl, ?hy40⟩) (by assumption) ?rest40
      case hy40 => intro w' hSw; (try dsimp only at hSw); go_simp; try with_reducible rfl
      try simp only [Act.put, List.setIfInBounds_toArray, List.set_cons_zero, List.set_cons_succ]
      refine wpAnyH_done (by kernel_rfl) ?_ _
      go_wp2
      go_roundw
      case rel => exact ⟨k + 1, d', r', by omega, by go_num, ((Se.front 1 rfl).front 2 rfl).take 2, HR1.out⟩
      case measure => simp [intOf]; omega
    · go_wp2
      go_ret
      exact ⟨rfl, Sk.fin⟩


set_option maxRecDepth 10000 in
set_option maxHeartbeats 1600000 in
theorem diskActs_law (size : Int) (a : Option Addr) (L : List DAct) (m cap : Nat) (w : World) (hm : L.length = m) (hm1 : m ≤ maxLen) (hA : AtG eDA w a L) (hok : ∀ x ∈ L, DAct.Ok w x) :
    Calls Try.prog 3 #[.int .i64 size, .slice a m cap] w fun e w' => e = .returned (.bool true) ∧ Below w.heap.size w w' := by
  by_cases hs : 300 < size ∧ size ≤ 65536
  · have g1 : decide (300 < size) = true := decide_eq_true hs.1
    have g2 : decide (size ≤ 65536) = true := decide_eq_true hs.2
    go_enter Try.func3, Try.ntmps3
    go_wp2_with fail
    refine (alive4_any _).mono ?_
    rintro e w1 ⟨rfl, hb1⟩
    go_wp2
    go_ret
    exact ⟨rfl, hb1⟩
  by_cases hf : few4 L = true
  case neg =>
    have HA := hid hA
    have HM := hid hm
    have HF : Hid (few4 L = false) := by rw [Hid]; simpa using hf
    clear hA hm hf hok
    go_enter Try.func3, Try.ntmps3
    go_wp2_with fail
    refine (alive4_any _).mono ?_
    rintro e w1 ⟨rfl, hb1⟩
    have HB1 := hid hb1
    clear hb1
    go_wp2_with (refine (few4_any a L m cap w1 HM.out hm1 (by exact HA.out.all eDAok HB1.out)).mono ?_; rintro e w2 ⟨rfl, rfl⟩; rw [HF.out])
    all_goals (go_ret; exact ⟨rfl, HB1.out⟩)
  by_cases h1 : 1 ≤ size ∧ size ≤ 300
  · obtain ⟨n, rfl⟩ := Int.eq_ofNat_of_zero_le (show 0 ≤ size by omega)
    exact diskActs_main n (by omega) (by omega) a L m cap w hm hm1 hA hok hf
  have hbad : size < 1 ∨ 65536 < size := by omega
  have HA := hid hA
  have HM := hid hm
  have HF := hid hf
  clear hA hm hf hok hs h1
  go_enter Try.func3, Try.ntmps3
  go_wp2_with fail
  refine (alive4_any _).mono ?_
  rintro e w1 ⟨rfl, hb1⟩
  have HB1 := hid hb1
  clear hb1
  rcases hbad with hbad | hbad
  all_goals (
    go_wp2_with fail
    refine (few4_any a L m cap w1 HM.out hm1 (by exact HA.out.all eDAok HB1.out)).mono ?_
    rintro e w2 ⟨rfl, rfl⟩
    rw [HF.out]
    go_wp2_with (first
      | (go_at_call 15; refine (new_no size (by omega) _).mono ?_; rintro e w2 ⟨rfl, rfl⟩)
      | (go_at_call 16; refine (nil_sync _).mono ?_; rintro e w2 ⟨rfl, rfl⟩)
      | (go_at_call 17; refine (nil_crash _ _).mono ?_; rintro e w2 ⟨rfl, rfl⟩)
      | (go_at_call 18; refine (nil_write _ _ _).mono ?_; rintro e w2 ⟨rfl, rfl⟩)
      | (go_at_call 19; refine (nil_bytes _).mono ?_; rintro e w2 ⟨rfl, rfl⟩)
      | (go_at_call 20; refine (nil_size _).mono ?_; rintro e w2 ⟨rfl, rfl⟩)
      | (go_at_call 21; refine (nil_waits _).mono ?_; rintro e w2 ⟨rfl, rfl⟩)
      | (go_at_call 22; refine (nil_syncs _).mono ?_; rintro e w2 ⟨rfl, rfl⟩))
    go_ret
    exact ⟨rfl, HB1.out⟩)

end Go.Proofs.Ytbdclgopdildmaa
