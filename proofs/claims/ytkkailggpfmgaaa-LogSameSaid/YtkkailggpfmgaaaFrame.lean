/- The walks of layer 3: slices.Concat, Put. -/
import Derived.Test.YtkkailggpfmgaaaRowT
import Derived.Test.YtkkailggpfmgaaaCodeWalk
import Derived.Test.YtkkailggpfmgaaaSumWalk
import Derived.Lib.AppendZeros
namespace Go.Proofs.Ytkkailggpfmgaaa
set_option linter.unusedVariables false
set_option linter.unusedSimpArgs false
open Go.RowKit

set_option maxRecDepth 10000 in
theorem grow_any (n : Nat) (h0 : 0 < n) (hn : n ≤ 140737488355328) (w : World) :
    Calls Try.prog 71 #[.slice none 0 0, .int .i64 n] w fun e w' => ∃ a c, e = .returned (.slice a 0 c) ∧ Own w' w.heap.size (.slice a 0 c) [] ∧ Below w.heap.size w w' := by
  obtain ⟨i, hi, hz0, hz1, hz2⟩ := info_parts infoB
  have hrun := Lib.run_append_nil_zeros (P := Try.prog) w 32 3 32 5 i (.int .u8 0) .i64 .i64 sliceB (by kernel_rfl) hi hz0 n h0 (by omega) (by omega) (by rw [hz2]; omega)
  have hcm := grownCap_le_maxLen w n 0 5 (by unfold maxLen; omega)
  have hge := grownCap_ge w n 0 5
  have HC := hid hcm
  have HR := hid hrun
  have ic := cut_hI (some ⟨w.heap.size, 0, none⟩) n (grownCap w n 0 5) 0 0 rfl (by omega)
  have ic0 := cut_hI none 0 0 0 0 rfl (by omega)
  have g1 : decide ((n : Int) < 0) = false := decide_eq_false (by omega)
  have g2 : decide ((0 : Int) < (n : Int)) = true := decide_eq_true (by omega)
  clear hrun hcm hi hz0 hz1 hz2
  generalize grownCap w n 0 5 = N at *
  go_enter Try.func71, Try.ntmps71
  go_wp2_with (at_builtin; refine Lib.wpList_append_run _ rfl (.tmp 20) (.tmp 21) 32 3 rfl _ _ rfl rfl _ _ HR.out ?_)
  go_ret
  have ec : cutH (some ⟨w.heap.size, 0, none⟩) 0 N = some ⟨w.heap.size, 0, none⟩ := by unfold cutH; split <;> simp [Addr.add]
  rw [ec]
  refine ⟨_, _, rfl, ⟨rfl, .inr ⟨w.heap.size, N, _, rfl, Nat.le_refl _, heap_alloc_new w.drew _, Nat.zero_le _, HC.out, ?_, rfl⟩⟩, ((Below.refl _ _).drew).alloc (Nat.le_refl _) _⟩
  simp [Builtin.zeroCells, Value.cells]; omega

def total (L : List BS) : Nat := (L.map (·.n)).sum
theorem total_take {L : List BS} {k : Nat} (h : k < L.length) : total (L.take (k + 1)) = total (L.take k) + L[k].n := by
  unfold total; rw [List.take_succ_eq_append_getElem h]; simp only [List.map_append, List.map_cons, List.map_nil, List.sum_append, List.sum_cons, List.sum_nil, Nat.add_zero]
theorem total_le (L : List BS) (k : Nat) : total (L.take k) ≤ total L := by
  have h : total L = total (L.take k) + total (L.drop k) := by
    unfold total; rw [← List.sum_append, ← List.map_append, List.take_append_drop]
  omega
theorem flat_take {L : List BS} {k : Nat} (h : k < L.length) : (L.take (k + 1)).flatMap (·.l) = (L.take k).flatMap (·.l) ++ L[k].l := by
  rw [List.take_succ_eq_append_getElem h]; simp only [List.flatMap_append, List.flatMap_cons, List.flatMap_nil, List.append_nil]
theorem total_flat {L : List BS} {w : World} (h : ∀ x ∈ L, BS.Ok w x) (k : Nat) : ((L.take k).flatMap (·.l)).length = total (L.take k) := by
  unfold total
  rw [List.length_flatMap]
  congr 1
  apply List.map_congr_left
  intro x hx
  exact (h x (List.mem_of_mem_take hx)).len

set_option maxRecDepth 10000 in
set_option maxHeartbeats 1600000 in
theorem concat_any (a : Option Addr) (L : List BS) (n cap : Nat) (w : World) (hn : L.length = n) (hm : n ≤ 140737488355328) (hA : AtG eS w a L) (hok : ∀ x ∈ L, BS.Ok w x) (T : Nat) (hT : total L = T) (h0 : 0 < T) (hTm : T ≤ 140737488355328) :
    Calls Try.prog 55 #[.slice a n cap] w fun e w' => ∃ a c, e = .returned (.slice a T c) ∧ Own w' w.heap.size (.slice a T c) (L.flatMap (·.l)) ∧ Below w.heap.size w w' := by
  have HN := hid hn
  have HA := hid hA
  have HOk := hid hok
  have HT := hid hT
  clear hn hA hok hT
  go_enter Try.func55, Try.ntmps55
  go_wp2_with fail
  go_loop [3, 11] (fun s i => ∃ k : Nat, k ≤ n ∧ s = .int .i64 (total (L.take k)) ∧ i = .int .i64 k) (fun _ i => n - (intOf i).toNat)
  case atStart => exact ⟨0, Nat.zero_le _, rfl, rfl⟩
  case round =>
    obtain ⟨k, hk, rfl, rfl⟩ := hrel
    by_cases hlt : k < n
    · have hkl : k < L.length := by rw [HN.out]; exact hlt
      have i0 := fun wx => idxS a n cap (fun h => HA.out.ok (by rw [HN.out]; exact h)) k k rfl hlt wx
      have x0 := HA.out.cellS hkl
      have HTk := hid (total_take hkl)
      have hle := total_le L (k + 1)
      rw [total_take hkl, HT.out] at hle
      generalize L[k] = x at *
      generalize total (L.take k) = s at *
      generalize adr a k = A at *
      go_wp2
      go_round
      case rel => exact ⟨k + 1, by omega, by rw [HTk.out]; go_num, by go_num⟩
      case measure => simp [intOf]; omega
    · have ek : Hid (total (L.take k) = T) := by rw [Hid, ← HT.out]; congr 1; exact List.take_of_length_le (by have := HN.out; omega)
      rw [ek.out]
      clear ek
      go_wp2_with fail
      refine (grow_any T h0 hTm w).mono ?_
      rintro e w1 ⟨a1, c1, rfl, ho1, hb1⟩
      have S1 : St w w1 [bytesT (.slice a1 0 c1) []] := (St.start w).bytes ho1 hb1
      clear ho1 hb1
      go_wp2_with fail
      go_loopw [6, 27] (fun v i wr => ∃ (k : Nat) (a1 : Option Addr) (c1 : Nat), k ≤ n ∧ v = .slice a1 (total (L.take k)) c1 ∧ i = .int .i64 k ∧ St w wr [bytesT (.slice a1 (total (L.take k)) c1) ((L.take k).flatMap (·.l))]) (fun _ i _ => n - (intOf i).toNat)
      case atStart => exact ⟨0, a1, c1, Nat.zero_le _, rfl, rfl, S1⟩
      case round =>
        obtain ⟨k, a1, c1, hk, rfl, rfl, Sk⟩ := hrel
        by_cases hlt : k < n
        · have hkl : k < L.length := by rw [HN.out]; exact hlt
          have i0 := fun wx => idxS a n cap (fun h => HA.out.ok (by rw [HN.out]; exact h)) k k rfl hlt wx
          have x0 := (HA.out.all eSok Sk.fin).cellS hkl
          have HX := hid (HOk.out _ (List.getElem_mem hkl))
          have HTk := hid (total_take hkl)
          have HF := hid (flat_take hkl)
          have hle := total_le L (k + 1)
          rw [total_take hkl, HT.out] at hle
          have HLn := hid (total_flat HOk.out k)
          generalize L[k] = x at *
          generalize total (L.take k) = s at *
          generalize (L.take k).flatMap (·.l) = bs at *
          generalize adr a k = A at *
          go_wp2_with (at_builtin; refine wpList_app (by rfl) (.tmp 31) (.tmp 32) 32 32 32 rfl rfl _ _ rfl rfl (Sk.app 0 rfl x.a x.l x.n x.c HX.out.len (by exact Sk.old HX.out.at_) (s + x.n) (by rw [HLn.out]) (by omega)) ?_; rintro v2 w2 ⟨⟨a2, c2, rfl⟩, S2⟩)
          go_roundw
          case rel => exact ⟨k + 1, a2, c2, by omega, by rw [HTk.out], by go_num, St.conv S2 (by rw [HTk.out, HF.out]; rfl)⟩
          case measure => simp [intOf]; omega
        · have ek : Hid (L.take k = L) := List.take_of_length_le (by have := HN.out; omega)
          rw [ek.out, HT.out] at Sk ⊢
          go_wp2
          go_ret
          obtain ⟨F, h1, _⟩ := Sk.head 0 rfl
          exact ⟨_, _, rfl, h1, Sk.fin⟩

end Go.Proofs.Ytkkailggpfmgaaa
