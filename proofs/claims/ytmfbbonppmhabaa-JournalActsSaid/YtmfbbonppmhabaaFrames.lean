/- The walks of layer 3: slices.Concat, Put. frame.Put and the document's. The document's frames (dunnageref03): Put. frame.Get. Frames: lists alone. dunnageref03.Get. All the frames from a place on: frame.All, dunnageref03.All, Same. Frames, put and turned: lists alone. -/
import Derived.Test.YtmfbbonppmhabaaThings
import Derived.Test.YtmfbbonppmhabaaCodes
import Derived.Test.YtmfbbonppmhabaaSums
import Derived.Lib.AppendZeros
import Derived.Test.YtmfbbonppmhabaaDisks
import Derived.Test.YtmfbbonppmhabaaGround
namespace Go.Proofs.Ytmfbbonppmhabaa
set_option linter.unusedVariables false
set_option linter.unusedSimpArgs false
open Go.RowKit

set_option maxRecDepth 10000 in
theorem grow_any (n : Nat) (h0 : 0 < n) (hn : n ≤ 140737488355328) (w : World) :
    Calls Try.prog 82 #[.slice none 0 0, .int .i64 n] w fun e w' => ∃ a c, e = .returned (.slice a 0 c) ∧ Own w' w.heap.size (.slice a 0 c) [] ∧ Below w.heap.size w w' := by
  obtain ⟨i, hi, hz0, hz1, hz2⟩ := info_parts infoB
  have hrun := Lib.run_append_nil_zeros (P := Try.prog) w 27 3 27 5 i (.int .u8 0) .i64 .i64 sliceB (by kernel_rfl) hi hz0 n h0 (by omega) (by omega) (by rw [hz2]; omega)
  have hcm := grownCap_le_maxLen w n 0 5 (by unfold maxLen; omega)
  have hge := grownCap_ge w n 0 5
  have HC := hid hcm
  have HR := hid hrun
  have ic := cut_hI (some ⟨w.heap.size, 0, none⟩) n (grownCap w n 0 5) 0 0 rfl (by omega)
  have ic0 := cut_hI none 0 0 0 0 rfl (by omega)
  have g1 : decide ((n : Int) < 0) = false := decide_eq_false (by omega)
  have g2 : decide ((0 : Int) < (n : Int)) = true := decide_eq_true (by omega)
  clear hrun hcm hi hz0 hz1 hz2
  generalize grownCap w n 0 5 = N at *
  go_enter Try.func82, Try.ntmps82
  go_wp2_with (at_builtin; refine Lib.wpList_append_run _ rfl (.tmp 20) (.tmp 21) 27 3 rfl _ _ rfl rfl _ _ HR.out ?_)
  go_ret
  have ec : cutH (some ⟨w.heap.size, 0, none⟩) 0 N = some ⟨w.heap.size, 0, none⟩ := by unfold cutH; split <;> simp [Addr.add]
  rw [ec]
  refine ⟨_, _, rfl, ⟨rfl, .inr ⟨w.heap.size, N, _, rfl, Nat.le_refl _, heap_alloc_new w.drew _, Nat.zero_le _, HC.out, ?_, rfl⟩⟩, ((Below.refl _ _).drew).alloc (Nat.le_refl _) _⟩
  simp [Builtin.zeroCells, Value.cells]; omega

def total (L : List BS) : Nat := (L.map (·.n)).sum
theorem total_take {L : List BS} {k : Nat} (h : k < L.length) : total (L.take (k + 1)) = total (L.take k) + L[k].n := by
  unfold total; rw [List.take_succ_eq_append_getElem h]; simp only [List.map_append, List.map_cons, List.map_nil, List.sum_append, List.sum_cons, List.sum_nil, Nat.add_zero]
theorem total_le (L : List BS) (k : Nat) : total (L.take k) ≤ total L := by
  have h : total L = total (L.take k) + total (L.drop k) := by
    unfold total; rw [← List.sum_append, ← List.map_append, List.take_append_drop]
  omega
theorem flat_take {L : List BS} {k : Nat} (h : k < L.length) : (L.take (k + 1)).flatMap (·.l) = (L.take k).flatMap (·.l) ++ L[k].l := by
  rw [List.take_succ_eq_append_getElem h]; simp only [List.flatMap_append, List.flatMap_cons, List.flatMap_nil, List.append_nil]
theorem total_flat {L : List BS} {w : World} (h : ∀ x ∈ L, BS.Ok w x) (k : Nat) : ((L.take k).flatMap (·.l)).length = total (L.take k) := by
  unfold total
  rw [List.length_flatMap]
  congr 1
  apply List.map_congr_left
  intro x hx
  exact (h x (List.mem_of_mem_take hx)).len

set_option maxRecDepth 10000 in
set_option maxHeartbeats 1600000 in
theorem concat_any (a : Option Addr) (L : List BS) (n cap : Nat) (w : World) (hn : L.length = n) (hm : n ≤ 140737488355328) (hA : AtG eS w a L) (hok : ∀ x ∈ L, BS.Ok w x) (T : Nat) (hT : total L = T) (h0 : 0 < T) (hTm : T ≤ 140737488355328) :
    Calls Try.prog 70 #[.slice a n cap] w fun e w' => ∃ a c, e = .returned (.slice a T c) ∧ Own w' w.heap.size (.slice a T c) (L.flatMap (·.l)) ∧ Below w.heap.size w w' := by
  have HN := hid hn
  have HA := hid hA
  have HOk := hid hok
  have HT := hid hT
  clear hn hA hok hT
  go_enter Try.func70, Try.ntmps70
  go_wp2_with fail
  go_loop [3, 11] (fun s i => ∃ k : Nat, k ≤ n ∧ s = .int .i64 (total (L.take k)) ∧ i = .int .i64 k) (fun _ i => n - (intOf i).toNat)
  case atStart => exact ⟨0, Nat.zero_le _, rfl, rfl⟩
  case round =>
    obtain ⟨k, hk, rfl, rfl⟩ := hrel
    by_cases hlt : k < n
    · have hkl : k < L.length := by rw [HN.out]; exact hlt
      have i0 := fun wx => idxS a n cap (fun h => HA.out.ok (by rw [HN.out]; exact h)) k k rfl hlt wx
      have x0 := HA.out.cellS hkl
      have HTk := hid (total_take hkl)
      have hle := total_le L (k + 1)
      rw [total_take hkl, HT.out] at hle
      generalize L[k] = x at *
      generalize total (L.take k) = s at *
      generalize adr a k = A at *
      go_wp2
      go_round
      case rel => exact ⟨k + 1, by omega, by rw [HTk.out]; go_num, by go_num⟩
      case measure => simp [intOf]; omega
    · have ek : Hid (total (L.take k) = T) := by rw [Hid, ← HT.out]; congr 1; exact List.take_of_length_le (by have := HN.out; omega)
      rw [ek.out]
      clear ek
      go_wp2_with fail
      refine (grow_any T h0 hTm w).mono ?_
      rintro e w1 ⟨a1, c1, rfl, ho1, hb1⟩
      have S1 : St w w1 [bytesT (.slice a1 0 c1) []] := (St.start w).bytes ho1 hb1
      clear ho1 hb1
      go_wp2_with fail
      go_loopw [6, 27] (fun v i wr => ∃ (k : Nat) (a1 : Option Addr) (c1 : Nat), k ≤ n ∧ v = .slice a1 (total (L.take k)) c1 ∧ i = .int .i64 k ∧ St w wr [bytesT (.slice a1 (total (L.take k)) c1) ((L.take k).flatMap (·.l))]) (fun _ i _ => n - (intOf i).toNat)
      case atStart => exact ⟨0, a1, c1, Nat.zero_le _, rfl, rfl, S1⟩
      case round =>
        obtain ⟨k, a1, c1, hk, rfl, rfl, Sk⟩ := hrel
        by_cases hlt : k < n
        · have hkl : k < L.length := by rw [HN.out]; exact hlt
          have i0 := fun wx => idxS a n cap (fun h => HA.out.ok (by rw [HN.out]; exact h)) k k rfl hlt wx
          have x0 := (HA.out.all eSok Sk.fin).cellS hkl
          have HX := hid (HOk.out _ (List.getElem_mem hkl))
          have HTk := hid (total_take hkl)
          have HF := hid (flat_take hkl)
          have hle := total_le L (k + 1)
          rw [total_take hkl, HT.out] at hle
          have HLn := hid (total_flat HOk.out k)
          generalize L[k] = x at *
          generalize total (L.take k) = s at *
          generalize (L.take k).flatMap (·.l) = bs at *
          generalize adr a k = A at *
          go_wp2_with (at_builtin; refine wpList_app (by rfl) (.tmp 31) (.tmp 32) 27 27 27 rfl rfl _ _ rfl rfl (Sk.app 0 rfl x.a x.l x.n x.c HX.out.len (by exact Sk.old HX.out.at_) (s + x.n) (by rw [HLn.out]) (by omega)) ?_; rintro v2 w2 ⟨⟨a2, c2, rfl⟩, S2⟩)
          go_roundw
          case rel => exact ⟨k + 1, a2, c2, by omega, by rw [HTk.out], by go_num, St.conv S2 (by rw [HTk.out, HF.out]; rfl)⟩
          case measure => simp [intOf]; omega
        · have ek : Hid (L.take k = L) := List.take_of_length_le (by have := HN.out; omega)
          rw [ek.out, HT.out] at Sk ⊢
          go_wp2
          go_ret
          obtain ⟨F, h1, _⟩ := Sk.head 0 rfl
          exact ⟨_, _, rfl, h1, Sk.fin⟩

end Go.Proofs.Ytmfbbonppmhabaa

namespace Go.Proofs.Ytmfbbonppmhabaa
set_option linter.unusedVariables false
set_option linter.unusedSimpArgs false
open Go.RowKit

/-- A payload's frame. -/
def frameB (l : List UInt8) : List UInt8 := if l.length = 0 ∨ 4000 < l.length then [] else codeNum l.length ++ l ++ putB (sumOf l) ++ [1]
theorem atG_lit {α : Type} {e : Elt α} (he : e.Ok) (w : World) (l : List α) (c : Array Value) (hc : c.toList = l.flatMap e.enc) (hm : l.length ≤ maxLen) : AtG e (w.alloc (.cells c e.E)) (some ⟨w.heap.size, 0, none⟩) l := by
  obtain ⟨a, c', e1, _, _, _, h, _⟩ := OwnG.at he (ownG_new he w w.heap.size l c l.length rfl hc hm (Nat.le_refl _))
  cases e1; exact h

set_option maxRecDepth 10000 in
set_option maxHeartbeats 1600000 in
theorem frPut_any (a : Option Addr) (l : List UInt8) (n cap : Nat) (w : World) (hn : l.length = n) (hm : n ≤ maxLen) (hcap : n ≤ cap) (hnil : a = none → cap = 0) (hA : At w a l) :
    Calls Try.prog 68 #[.slice a n cap] w fun e w' => ∃ a c, e = .returned (.slice a (frameB l).length c) ∧ Own w' w.heap.size (.slice a (frameB l).length c) (frameB l) ∧ Below w.heap.size w w' := by
  unfold maxLen at hm
  have HN := hid hn
  have HA := hid hA
  clear hn hA
  by_cases h0 : n = 0 ∨ 4000 < n
  · have e : frameB l = [] := by unfold frameB; rw [HN.out, if_pos h0]
    rw [e]
    clear e
    rcases h0 with rfl | h0
    · go_enter Try.func68, Try.ntmps68
      go_wp2
      go_ret
      exact ⟨_, _, rfl, Own.nil _ _, Below.refl _ _⟩
    · have g1 : ((n : Int) == 0) = false := by simp; omega
      have g2 : decide ((4000 : Int) < (n : Int)) = true := decide_eq_true (by omega)
      go_enter Try.func68, Try.ntmps68
      go_wp2
      go_ret
      exact ⟨_, _, rfl, Own.nil _ _, Below.refl _ _⟩
  have g1 : ((n : Int) == 0) = false := by simp; omega
  have g2 : decide ((4000 : Int) < (n : Int)) = false := decide_eq_false (by omega)
  have ef : Hid (frameB l = codeNum n ++ (l ++ (putB (sumOf l) ++ [1]))) := by
    rw [Hid, frameB, HN.out, if_neg h0]; simp
  have hcl := codeNum_len (n : Int)
  have X1 : Hid (#[Value.int .u8 1].toList = ([1] : List UInt8).map bv) := rfl
  generalize hfl : (frameB l).length = N
  have eN : Hid ((codeNum n).length + n + 5 = N) := by
    rw [Hid, ← hfl, ef.out]; simp only [List.length_append, HN.out, putB_length, List.length_singleton]; omega
  clear hfl
  go_enter Try.func68, Try.ntmps68
  go_wp2_with fail
  refine (num_any n w).mono ?_
  rintro e w1 ⟨v1, rfl, ho1, hb1⟩
  obtain ⟨a1, c1, rfl⟩ := ho1.written rfl
  have S1 := (St.start w).bytes ho1 hb1
  clear ho1 hb1
  go_wp2_with fail
  refine (of_any a l n cap w1 HN.out (by unfold maxLen; omega) (by exact S1.old HA.out)).mono ?_
  rintro e w2 ⟨rfl, rfl⟩
  go_wp2_with fail
  refine (put_any (sumOf l : Int) w1).mono ?_
  rintro e w2 ⟨v2, rfl, ho2, hb2⟩
  obtain ⟨a2, c2, rfl⟩ := ho2.written (n := 4) (putB_length _)
  have S2 := S1.bytes ho2 hb2
  clear ho2 hb2
  go_wp2_with fail
  have hm4 := fun (w' : World) => atG_lit eSok w' [⟨a1, (codeNum n).length, c1, codeNum n⟩, ⟨a, n, cap, l⟩, ⟨a2, 4, c2, putB (sumOf l)⟩, ⟨some ⟨w2.heap.size, 0, none⟩, 1, 1, [1]⟩] #[.slice a1 (codeNum n).length c1, .slice a n cap, .slice a2 4 c2, .slice (some ⟨w2.heap.size, 0, none⟩) 1 1] rfl (by simp [maxLen])
  have hm5 := hm4 (w2.alloc (.cells #[.int .u8 1] 5))
  rw [show (w2.alloc (.cells #[.int .u8 1] 5)).heap.size = w2.heap.size + 1 by simp] at hm5
  have HM4 := hid hm5
  clear hm4 hm5
  have hlit := at_lit w2 [1] #[.int .u8 1] rfl
  have hb3 : Below w2.heap.size w2 (w2.alloc (.cells #[.int .u8 1] 5)) := (Below.refl _ _).alloc (Nat.le_refl _) _
  have S3 := S2.grow hb3
  have HL := hid hlit
  have HOk : Hid (∀ (o : Obj) (x : BS), x ∈ ([⟨a1, (codeNum n).length, c1, codeNum n⟩, ⟨a, n, cap, l⟩, ⟨a2, 4, c2, putB (sumOf l)⟩, ⟨some ⟨w2.heap.size, 0, none⟩, 1, 1, [1]⟩] : List BS) → BS.Ok ((w2.alloc (.cells #[.int .u8 1] 5)).alloc o) x) := by
    intro o x hx
    have S4 := S3.alloc o
    have q1 := S4.slA 0 rfl
    have q2 := S4.slA 1 rfl
    simp at hx
    rcases hx with rfl | rfl | rfl | rfl
    · exact ⟨rfl, q1.2.1, q1.2.2.2.1, q1.2.2.2.2⟩
    · exact ⟨HN.out, hcap, hnil, S4.old HA.out⟩
    · exact ⟨putB_length _, q2.2.1, q2.2.2.2.1, q2.2.2.2.2⟩
    · exact ⟨rfl, Nat.le_refl _, (fun e => by cases e), HL.out.all ((Below.refl _ _).alloc (Nat.le_refl _) _)⟩
  clear hlit hb3
  refine (concat_any _ _ 4 _ _ rfl (by omega) (by exact HM4.out) (by exact HOk.out _) N (by rw [← eN.out]; simp [total]; omega) (by have := eN.out; omega) (by have := eN.out; omega)).mono ?_
  rintro e w5 ⟨a5, c5, rfl, ho5, hb5⟩
  have S5 := (S3.alloc _).grow hb5
  have HO5 := hid ho5
  have hs5 := (S3.alloc (.cells #[.slice a1 (codeNum n).length c1, .slice a n cap, .slice a2 4 c2, .slice (some ⟨w2.heap.size, 0, none⟩) 1 1] 27)).size
  clear ho5 hb5
  go_wp2
  go_ret
  refine ⟨_, _, rfl, ?_, S5.fin⟩
  rw [ef.out]
  have := HO5.out.base hs5
  simpa using this

end Go.Proofs.Ytmfbbonppmhabaa

namespace Go.Proofs.Ytmfbbonppmhabaa
set_option linter.unusedVariables false
set_option linter.unusedSimpArgs false
open Go.RowKit

set_option maxRecDepth 10000 in
set_option maxHeartbeats 1600000 in
theorem rfrPut_any (a : Option Addr) (l : List UInt8) (n cap : Nat) (w : World) (hn : l.length = n) (hm : n ≤ 140737488355328) (hA : At w a l) :
    Calls Try.prog 53 #[.slice a n cap] w fun e w' => ∃ a c, e = .returned (.slice a (frameB l).length c) ∧ Own w' w.heap.size (.slice a (frameB l).length c) (frameB l) ∧ Below w.heap.size w w' := by
  have HN := hid hn
  have HA := hid hA
  clear hn hA
  by_cases h0 : n = 0 ∨ 4000 < n
  · have e : frameB l = [] := by unfold frameB; rw [HN.out, if_pos h0]
    rw [e]
    clear e
    rcases h0 with rfl | h0
    · go_enter Try.func53, Try.ntmps53
      go_wp2
      go_ret
      exact ⟨_, _, rfl, Own.nil _ _, Below.refl _ _⟩
    · have g1 : decide ((n : Int) < 1) = false := decide_eq_false (by omega)
      have g2 : decide ((4000 : Int) < (n : Int)) = true := decide_eq_true (by omega)
      go_enter Try.func53, Try.ntmps53
      go_wp2
      go_ret
      exact ⟨_, _, rfl, Own.nil _ _, Below.refl _ _⟩
  have g1 : decide ((n : Int) < 1) = false := decide_eq_false (by omega)
  have g2 : decide ((4000 : Int) < (n : Int)) = false := decide_eq_false (by omega)
  have ef : Hid (frameB l = ((([] ++ codeNum n) ++ l) ++ putB (sumOf l)) ++ [1]) := by
    rw [Hid, frameB, HN.out, if_neg h0]; simp
  have hcl := codeNum_len (n : Int)
  obtain ⟨c, hc⟩ : ∃ c, (codeNum n).length = c := ⟨_, rfl⟩
  rw [hc] at hcl
  have HC := hid hc
  have eN : Hid ((frameB l).length = c + n + 4 + 1) := by
    rw [Hid, ef.out]; simp only [List.length_append, HN.out, HC.out, putB_length, List.length_singleton, List.length_nil]; omega
  rw [eN.out]
  clear hc
  go_enter Try.func53, Try.ntmps53
  go_wp2_with fail
  refine (rnum_any n w).mono ?_
  rintro e w1 ⟨v1, rfl, ho1, hb1⟩
  obtain ⟨a1, c1, rfl⟩ := ho1.written HC.out
  have S1 := (St.start w).nil.bytes ho1 hb1
  clear ho1 hb1
  go_wp2_with (at_builtin; first
    | (refine wpList_app (by rfl) (.tmp 12) (.tmp 15) 27 27 27 rfl rfl _ _ rfl rfl (S1.app 0 rfl a1 (codeNum n) c c1 HC.out (by exact S1.at 1 rfl) c (by simp) (by omega)) ?_; rintro v2 w2 ⟨⟨a2, c2, rfl⟩, S2⟩)
    | (refine wpList_app (by rfl) (.tmp 17) (.tmp 18) 27 27 27 rfl rfl _ _ rfl rfl (S2.app 0 rfl a l n cap HN.out (by exact S2.old HA.out) (c + n) (by rw [List.nil_append, HC.out]) (by omega)) ?_; rintro v3 w3 ⟨⟨a3, c3, rfl⟩, S3⟩))
  refine (rof_any a l n cap w3 HN.out (by unfold maxLen; omega) (by exact S3.old HA.out)).mono ?_
  rintro e w4 ⟨rfl, rfl⟩
  go_wp2_with fail
  refine (rput_any (sumOf l : Int) w3).mono ?_
  rintro e w4 ⟨v4, rfl, ho4, hb4⟩
  obtain ⟨a4, c4, rfl⟩ := ho4.written (n := 4) (putB_length _)
  have S4 := S3.bytes ho4 hb4
  clear ho4 hb4
  go_wp2_with (at_builtin; first
    | (refine wpList_app (by rfl) (.tmp 20) (.tmp 23) 27 27 27 rfl rfl _ _ rfl rfl (S4.app 0 rfl a4 (putB (sumOf l)) 4 c4 (putB_length _) (by exact S4.at 2 rfl) (c + n + 4) (by rw [List.nil_append, List.length_append, HC.out, HN.out]) (by omega)) ?_; rintro v5 w5 ⟨⟨a5, c5, rfl⟩, S5⟩)
    | (refine wpList_app (by rfl) (.tmp 25) (.tmp 26) 27 27 27 rfl rfl _ _ rfl rfl (S5.app1 w5.heap.size rfl 0 rfl 1 _ (by rfl) (c + n + 4 + 1) (by rw [List.nil_append, List.length_append, List.length_append, HC.out, HN.out, putB_length]) (by omega)) ?_; rintro v6 w6 ⟨⟨a6, c6, rfl⟩, S6⟩))
  go_ret
  refine ⟨_, _, rfl, ?_, S6.fin⟩
  rw [ef.out]
  exact S6.ownAt 0 rfl

end Go.Proofs.Ytmfbbonppmhabaa

namespace Go.Proofs.Ytmfbbonppmhabaa
set_option linter.unusedVariables false
set_option linter.unusedSimpArgs false
open Go.RowKit

theorem cut_lhm (a : Option Addr) (n cap lo hi mx : Nat) (i j k : Int) (ei : i = lo) (ej : j = hi) (ek : k = mx) (h1 : lo ≤ hi) (h2 : hi ≤ mx) (h3 : mx ≤ cap) (wx : World) :
    (Instr.slice 27 (.slice a n cap) (some (.int .i64 i)) (some (.int .i64 j)) (some (.int .i64 k))).run Try.prog wx = .ok (.slice (cutH a lo mx) (hi - lo) (mx - lo)) wx := by
  subst ei ej ek
  rw [run_slice_any wx _ a n cap sliceT]
  have e1 : ((lo : Int)) ≤ (hi : Int) := by omega
  have e2 : ((hi : Int)) ≤ (mx : Int) := by omega
  have e3 : ((mx : Int)) ≤ (cap : Int) := by omega
  have hb : (Instr.sliceBounds true n cap (some (.int .i64 (lo : Int))) (some (.int .i64 (hi : Int))) (some (.int .i64 (mx : Int)))).run Try.prog wx = .ok (lo, hi, mx) wx := by
    simp [Instr.sliceBounds, run_sliceBound, e1, e2, e3]
  rw [hb]
  simp only [Result.andThen]
  rw [sizeT]
  simp [Result.andThen, sliced, cutH]

/-- What stands behind a number. -/
def fBody (l : List UInt8) (at_ : Int) (n x : Nat) : List UInt8 × Int × Int :=
  if 4000 < n ∨ l.length ≤ x + n + 4 then ([], at_, 2)
  else if isB ((l.drop x).take (n + 4)) = true ∧ l[x + n + 4]?.getD 0 = 1 then ((l.drop x).take n, ((x + n + 5 : Nat) : Int), 1) else ([], at_, 2)
def fNum (l : List UInt8) (at_ : Int) : Option (Nat × Nat) → List UInt8 × Int × Int
  | none => ([], at_, 2)
  | some q => fBody l at_ q.1 q.2
/-- What stands at a place: the payload, the place behind it, and what it is. -/
def fGet (l : List UInt8) (at_ : Int) : List UInt8 × Int × Int :=
  if at_ < 0 ∨ (l.length : Int) < at_ then ([], at_, 2)
  else if l[at_.toNat]?.getD 0 = 0 then ([], at_, 0)
  else fNum l at_ (getNum l at_)

def GetPost (r : List UInt8 × Int × Int) (B : Nat) (e : Ending) (w' : World) : Prop := ∃ a c, e = .returned (.tuple #[.slice a r.1.length c, .int .i64 r.2.1, .int .i64 r.2.2]) ∧ Own w' B (.slice a r.1.length c) r.1

set_option maxRecDepth 10000 in
set_option maxHeartbeats 1600000 in
theorem frGet_any (a : Option Addr) (l : List UInt8) (n cap : Nat) (at_ : Int) (w : World) (hn : l.length = n) (hm : n ≤ 140737488355328) (hcap : n ≤ cap) (hA : At w a l) :
    Calls Try.prog 75 #[.slice a n cap, .int .i64 at_] w fun e w' => GetPost (fGet l at_) w.heap.size e w' ∧ Below w.heap.size w w' := by
  have HN := hid hn
  have HA := hid hA
  clear hn hA
  have no : ∀ (z : Int), fGet l at_ = ([], at_, z) → GetPost (fGet l at_) w.heap.size (.returned (.tuple #[.slice none 0 0, .int .i64 at_, .int .i64 z])) w := by
    intro z h
    rw [h]
    exact ⟨none, 0, rfl, Own.nil _ _⟩
  have No := hid no
  clear no
  by_cases q0 : at_ < 0
  · have HF : Hid (fGet l at_ = ([], at_, 2)) := by rw [Hid, fGet, if_pos (.inl q0)]
    go_enter Try.func75, Try.ntmps75
    go_wp2
    go_ret3
    exact ⟨No.out _ HF.out, Below.refl _ _⟩
  obtain ⟨k, rfl⟩ := Int.eq_ofNat_of_zero_le (show 0 ≤ at_ by omega)
  by_cases q1 : n < k
  · have HF : Hid (fGet l k = ([], (k : Int), 2)) := by rw [Hid, fGet, if_pos (.inr (by rw [HN.out]; omega))]
    have g1 : decide (n < k) = true := decide_eq_true q1
    go_enter Try.func75, Try.ntmps75
    go_wp2
    go_ret3
    exact ⟨No.out _ HF.out, Below.refl _ _⟩
  have hF1 : fGet l k = if l[k]?.getD 0 = 0 then ([], (k : Int), 0) else fNum l k (getNum l k) := by
    rw [fGet, if_neg (by rw [HN.out]; omega), Int.toNat_natCast]
  have g1 : decide (n < k) = false := decide_eq_false q1
  by_cases q2 : k = n
  · subst q2
    have HF : Hid (fGet l k = ([], (k : Int), 0)) := by rw [Hid, hF1, if_pos (by rw [List.getElem?_eq_none (by have := HN.out; omega)]; rfl)]
    clear hF1
    go_enter Try.func75, Try.ntmps75
    go_wp2
    go_ret3
    exact ⟨No.out _ HF.out, Below.refl _ _⟩
  have hkl : k < l.length := by rw [HN.out]; omega
  have g2 : ((k : Int) == (n : Int)) = false := by simp; omega
  have i0 := fun wx => idx_at a n cap (fun h => HA.out.ok (by rw [HN.out]; exact h)) k k rfl (by omega) wx
  have x0 := HA.out.cell hkl
  rw [List.getElem?_eq_getElem hkl, Option.getD_some] at hF1
  generalize l[k] = z at *
  generalize adr a k = A at *
  by_cases q3 : z = 0
  · subst q3
    have HF : Hid (fGet l k = ([], (k : Int), 0)) := by rw [Hid, hF1, if_pos rfl]
    clear hF1
    have g3 : (((0 : UInt8).toNat : Int) == 0) = true := rfl
    go_enter Try.func75, Try.ntmps75
    go_wp2
    go_ret3
    exact ⟨No.out _ HF.out, Below.refl _ _⟩
  have g3 : ((z.toNat : Int) == 0) = false := by
    have : z.toNat ≠ 0 := fun h => q3 (by apply UInt8.toNat.inj; simpa using h)
    simp; omega
  rw [if_neg q3] at hF1
  have HF1 := hid hF1
  clear hF1 q3
  cases hg : getNum l k with
  | none =>
    have HG := hid hg
    have HF : Hid (fGet l k = ([], (k : Int), 2)) := by rw [Hid, HF1.out, hg]; rfl
    clear hg
    go_enter Try.func75, Try.ntmps75
    go_wp2_with fail
    refine (getNum_any a l n cap k w HN.out hm hcap HA.out).mono ?_
    rintro e w1 ⟨rfl, rfl⟩
    rw [HG.out]
    unfold res3
    go_wp2
    go_ret3
    exact ⟨No.out _ HF.out, Below.refl _ _⟩
  | some q =>
    obtain ⟨m, x⟩ := q
    have hgs := getNum_some hg
    rw [HN.out] at hgs
    have HG := hid hg
    have HF2 : Hid (fGet l k = fBody l k m x) := by rw [Hid, HF1.out, hg]; rfl
    clear hg
    obtain ⟨hm1, hkx, hxn, _⟩ := hgs
    have hkx' : k < x := by omega
    by_cases q4 : 4000 < m ∨ n ≤ x + m + 4
    · have HF : Hid (fGet l k = ([], (k : Int), 2)) := by rw [Hid, HF2.out, fBody, HN.out, if_pos q4]
      by_cases q5 : 4000 < m
      · have g4 : decide ((4000 : Int) < (m : Int)) = true := decide_eq_true (by omega)
        go_enter Try.func75, Try.ntmps75
        go_wp2_with fail
        refine (getNum_any a l n cap k w HN.out hm hcap HA.out).mono ?_
        rintro e w1 ⟨rfl, rfl⟩
        rw [HG.out]
        unfold res3
        go_wp2
        go_ret3
        exact ⟨No.out _ HF.out, Below.refl _ _⟩
      · have g4 : decide ((4000 : Int) < (m : Int)) = false := decide_eq_false (by omega)
        have g5 : decide ((n : Int) - (x : Int) ≤ (m : Int) + 4) = true := decide_eq_true (by omega)
        go_enter Try.func75, Try.ntmps75
        go_wp2_with fail
        refine (getNum_any a l n cap k w HN.out hm hcap HA.out).mono ?_
        rintro e w1 ⟨rfl, rfl⟩
        rw [HG.out]
        unfold res3
        go_wp2
        go_ret3
        exact ⟨No.out _ HF.out, Below.refl _ _⟩
    have g4 : decide ((4000 : Int) < (m : Int)) = false := decide_eq_false (by omega)
    have g5 : decide ((n : Int) - (x : Int) ≤ (m : Int) + 4) = false := decide_eq_false (by omega)
    have ic := cut_lhI a n cap x (x + m + 4) (x : Int) ((x : Int) + (m : Int) + 4) rfl (by omega) (by omega) (by omega)
    have HAc := hid (HA.out.cut x (x + m + 4 - x) cap (by omega))
    have HLc : Hid ((((l.drop x).take (x + m + 4 - x))).length = x + m + 4 - x) := by rw [Hid, List.length_take, List.length_drop, HN.out]; omega
    have HE : Hid ((l.drop x).take (x + m + 4 - x) = (l.drop x).take (m + 4)) := by rw [Hid]; congr 1; omega
    have hyl : x + m + 4 < l.length := by rw [HN.out]; omega
    have HF3 : Hid (fBody l k m x = if isB ((l.drop x).take (m + 4)) = true ∧ l[x + m + 4] = 1 then ((l.drop x).take m, ((x + m + 5 : Nat) : Int), 1) else ([], (k : Int), 2)) := by
      rw [Hid, fBody, HN.out, if_neg q4, List.getElem?_eq_getElem hyl, Option.getD_some]
    have i1 := fun wx => idx_at a n cap (fun h => HA.out.ok (by rw [HN.out]; exact h)) (x + m + 4) ((x : Int) + (m : Int) + 4) (by omega) (by omega) wx
    have x1 := HA.out.cell hyl
    generalize l[x + m + 4] = y at *
    generalize adr a (x + m + 4) = A1 at *
    by_cases q5 : isB ((l.drop x).take (m + 4)) = true
    case neg =>
      have HB : Hid (isB ((l.drop x).take (m + 4)) = false) := by rw [Hid]; simpa using q5
      have HF : Hid (fGet l k = ([], (k : Int), 2)) := by rw [Hid, HF2.out, HF3.out, if_neg (fun h => q5 h.1)]
      clear q5
      go_enter Try.func75, Try.ntmps75
      go_wp2_with fail
      refine (getNum_any a l n cap k w HN.out hm hcap HA.out).mono ?_
      rintro e w1 ⟨rfl, rfl⟩
      rw [HG.out]
      unfold res3
      go_wp2_with fail
      refine (is_any _ _ _ _ w HLc.out (by unfold maxLen; omega) (by omega) (by exact HAc.out)).mono ?_
      rintro e w1 ⟨rfl, hb⟩
      rw [HE.out, HB.out]
      have HBb := hid hb
      clear hb
      go_wp2
      go_ret3
      obtain ⟨a', c', e1, e2⟩ := No.out _ HF.out
      exact ⟨⟨a', c', e1, e2.stay HBb.out⟩, HBb.out⟩
    have HB := hid q5
    by_cases q6 : y = 1
    case neg =>
      have HF : Hid (fGet l k = ([], (k : Int), 2)) := by rw [Hid, HF2.out, HF3.out, if_neg (fun h => q6 h.2)]
      have g6 : ((y.toNat : Int) != 1) = true := by
        have : y.toNat ≠ 1 := fun h => q6 (by apply UInt8.toNat.inj; simpa using h)
        simp; omega
      clear q5 q6
      go_enter Try.func75, Try.ntmps75
      go_wp2_with fail
      refine (getNum_any a l n cap k w HN.out hm hcap HA.out).mono ?_
      rintro e w1 ⟨rfl, rfl⟩
      rw [HG.out]
      unfold res3
      go_wp2_with fail
      refine (is_any _ _ _ _ w HLc.out (by unfold maxLen; omega) (by omega) (by exact HAc.out)).mono ?_
      rintro e w1 ⟨rfl, hb⟩
      rw [HE.out, HB.out]
      have x1' : w1.cell? A1 = some (.int .u8 (y.toNat : Int)) := (hb.cell (World.block_lt_of_cell? _ _ x1)).trans x1
      have HBb := hid hb
      clear hb
      go_wp2
      go_ret3
      obtain ⟨a', c', e1, e2⟩ := No.out _ HF.out
      exact ⟨⟨a', c', e1, e2.stay HBb.out⟩, HBb.out⟩
    have HF : Hid (fGet l k = ((l.drop x).take m, ((x + m + 5 : Nat) : Int), 1)) := by rw [Hid, HF2.out, HF3.out, if_pos ⟨q5, q6⟩]
    subst q6
    have g6 : (((1 : UInt8).toNat : Int) != 1) = false := rfl
    have ic2 := cut_lhm a n cap x (x + m) (x + m) (x : Int) ((x : Int) + (m : Int)) ((x : Int) + (m : Int)) rfl (by omega) (by omega) (by omega) (by omega) (by omega)
    have HAd := hid (HA.out.cut x m (x + m) (by omega))
    have HLd : Hid ((((l.drop x).take m)).length = m) := by rw [Hid, List.length_take, List.length_drop, HN.out]; omega
    have HNd : Hid (cutH a x (x + m) = none → m = 0) := by
      have := HA.out.ok (show 0 < l.length by omega)
      intro h
      unfold cutH at h
      split at h
      · omega
      · obtain ⟨y, rfl⟩ := Option.isSome_iff_exists.1 this
        cases h
    clear q5
    go_enter Try.func75, Try.ntmps75
    go_wp2_with fail
    refine (getNum_any a l n cap k w HN.out hm hcap HA.out).mono ?_
    rintro e w1 ⟨rfl, rfl⟩
    rw [HG.out]
    unfold res3
    go_wp2_with fail
    refine (is_any _ _ _ _ w HLc.out (by unfold maxLen; omega) (by omega) (by exact HAc.out)).mono ?_
    rintro e w1 ⟨rfl, hb⟩
    rw [HE.out, HB.out]
    have x1' : w1.cell? A1 = some (.int .u8 ((1 : UInt8).toNat : Int)) := (hb.cell (World.block_lt_of_cell? _ _ x1)).trans x1
    have HBb := hid hb
    clear hb
    go_wp2_with fail
    refine (clone_any _ _ _ _ w1 HLd.out (by omega) HNd.out (by exact HAd.out.all HBb.out)).mono ?_
    rintro e w2 ⟨v2, rfl, ho2, hb2⟩
    obtain ⟨a2, c2, rfl⟩ := ho2.written HLd.out
    have HO2 := hid (ho2.base HBb.out.size)
    have HB2 := hid (bst HBb.out hb2)
    clear ho2 hb2
    go_wp2
    go_ret3
    refine ⟨?_, HB2.out⟩
    rw [HF.out]
    have hl := HLd.out
    refine ⟨a2, c2, ?_, by rw [hl]; exact HO2.out⟩
    rw [hl]
    have e3 : (x : Int) + (m : Int) + 4 + 1 = ((x + m + 5 : Nat) : Int) := by omega
    rw [← e3]
    rfl

end Go.Proofs.Ytmfbbonppmhabaa

namespace Go.Proofs.Ytmfbbonppmhabaa
set_option linter.unusedVariables false
set_option linter.unusedSimpArgs false
open Go.RowKit

theorem getNum_drop {l : List UInt8} {k m x : Nat} (h : getNum l k = some (m, x)) : getNum (l.drop k) 0 = some (m, x - k) ∧ k < x ∧ x ≤ l.length := by
  have hs := getNum_some h
  have hk : k < l.length := by omega
  rw [getNum_at' hk] at h
  obtain ⟨q, hq, e⟩ := Option.map_eq_some_iff.1 h
  have h0 : 0 < (l.drop k).length := by rw [List.length_drop]; omega
  have := getNum_at' (l := l.drop k) (p := 0) h0
  rw [show ((0 : Nat) : Int) = 0 from rfl] at this
  rw [this, List.drop_zero, hq]
  simp only [Prod.mk.injEq] at e
  obtain ⟨rfl, rfl⟩ := e
  refine ⟨by simp, by omega, by omega⟩
theorem getNum_code {l : List UInt8} {k m x : Nat} (h : getNum l k = some (m, x)) : codeNum m = (l.drop k).take (x - k) ∧ (codeNum m).length = x - k := by
  obtain ⟨h1, h2, h3⟩ := getNum_drop h
  have e := getNum_back h1
  exact ⟨e, by rw [e, List.length_take, List.length_drop]; omega⟩
theorem getNum_pos {l : List UInt8} {k m x : Nat} (h : getNum l k = some (m, x)) (hz : l[k]?.getD 0 ≠ 0) : 1 ≤ m := by
  rcases Nat.eq_zero_or_pos m with h0 | h0
  · subst h0
    have hc := (getNum_code h).1
    have e0 : codeNum ((0 : Nat) : Int) = [0] := by kernel_rfl
    rw [e0] at hc
    exfalso
    apply hz
    have h2 := (getNum_drop h).2.1
    have : ((l.drop k).take (x - k))[0]? = some 0 := by rw [← hc]; rfl
    rw [List.getElem?_take_of_lt (by omega), List.getElem?_drop, Nat.add_zero] at this
    rw [this]; rfl
  · exact h0
/-- The document's answer behind a number. -/
def rBody (l : List UInt8) (k m x : Nat) : List UInt8 × Int × Int :=
  if 4000 < m ∨ l.length < x + m then ([], (k : Int), 2)
  else if l.length < k + (frameB ((l.drop x).take m)).length ∨ frameB ((l.drop x).take m) ≠ (l.drop k).take (frameB ((l.drop x).take m)).length then ([], (k : Int), 2)
  else ((l.drop x).take m, ((k + (frameB ((l.drop x).take m)).length : Nat) : Int), 1)
theorem rBody_eq {l : List UInt8} {k m x : Nat} (h : getNum l k = some (m, x)) (hm : 1 ≤ m) : rBody l k m x = fBody l k m x := by
  obtain ⟨hc, hcl⟩ := getNum_code h
  obtain ⟨_, hkx, hxl⟩ := getNum_drop h
  unfold rBody fBody
  by_cases h4 : 4000 < m
  · rw [if_pos (.inl h4), if_pos (.inl h4)]
  by_cases h5 : l.length < x + m
  · rw [if_pos (.inr h5), if_pos (.inr (by omega))]
  rw [if_neg (by omega)]
  have hp : ((l.drop x).take m).length = m := by rw [List.length_take, List.length_drop]; omega
  generalize hpp : (l.drop x).take m = p at *
  have ef : frameB p = codeNum m ++ (p ++ (putB (sumOf p) ++ [1])) := by rw [frameB, hp, if_neg (by omega)]; simp
  have lf : (frameB p).length = (x - k) + m + 5 := by rw [ef]; simp only [List.length_append, hcl, hp, putB_length, List.length_singleton]; omega
  rw [lf]
  by_cases h6 : l.length ≤ x + m + 4
  · rw [if_pos (.inl (by omega)), if_pos (.inr h6)]
  rw [if_neg (by omega : ¬ (4000 < m ∨ l.length ≤ x + m + 4))]
  have h7 : ¬ l.length < k + ((x - k) + m + 5) := by omega
  have e1 : (l.drop k).take ((x - k) + m + 5) = codeNum m ++ (p ++ ((l.drop (x + m)).take 4 ++ [l[x + m + 4]])) := by
    have d1 : (l.drop k).take ((x - k) + m + 5) = (l.drop k).take (x - k) ++ ((l.drop k).drop (x - k)).take (m + 5) := by
      rw [show (x - k) + m + 5 = (x - k) + (m + 5) by omega, List.take_add]
    have d2 : ((l.drop k).drop (x - k)) = l.drop x := by rw [List.drop_drop]; congr 1; omega
    have d3 : (l.drop x).take (m + 5) = (l.drop x).take m ++ ((l.drop x).drop m).take 5 := List.take_add
    have d4 : ((l.drop x).drop m) = l.drop (x + m) := List.drop_drop
    have d5 : (l.drop (x + m)).take 5 = (l.drop (x + m)).take 4 ++ [l[x + m + 4]] := by
      have hlt : 4 < (l.drop (x + m)).length := by rw [List.length_drop]; omega
      rw [List.take_succ_eq_append_getElem hlt]
      congr 2
      simp
    rw [d1, d2, d3, d4, d5, ← hc, hpp]
  have e2 : isB ((l.drop x).take (m + 4)) = (putB (sumOf p) == (l.drop (x + m)).take 4) := by
    have d3 : (l.drop x).take (m + 4) = p ++ (l.drop (x + m)).take 4 := by
      rw [List.take_add, hpp, List.drop_drop]
    have dl : ((l.drop (x + m)).take 4).length = 4 := by rw [List.length_take, List.length_drop]; omega
    unfold isB
    rw [d3, List.length_append, hp, dl, Nat.add_sub_cancel, List.take_left' hp, List.drop_left' hp]
    simp
  rw [List.getElem?_eq_getElem (by omega : x + m + 4 < l.length), Option.getD_some, e2, ef, e1]
  by_cases h8 : putB (sumOf p) = (l.drop (x + m)).take 4 ∧ l[x + m + 4] = 1
  · rw [if_neg (by rw [h8.1, h8.2]; simp; omega), if_pos ⟨by rw [beq_iff_eq]; exact h8.1, h8.2⟩]
    congr 2
    omega
  · rw [if_pos, if_neg (by rw [beq_iff_eq]; exact h8)]
    right
    intro he
    apply h8
    have he := List.append_cancel_left he
    have he := List.append_cancel_left he
    have := List.append_inj' he rfl
    exact ⟨this.1, by have := this.2; simp at this; exact this.symm⟩

end Go.Proofs.Ytmfbbonppmhabaa

namespace Go.Proofs.Ytmfbbonppmhabaa
set_option linter.unusedVariables false
set_option linter.unusedSimpArgs false
open Go.RowKit

theorem St.lit0 {w0 w : World} {l : List Thing} (S : St w0 w l) : St w0 (w.alloc (.cells #[] 5)) (l ++ [bytesT (.slice (some ⟨w.heap.size, 0, none⟩) 0 0) []]) :=
  S.bytes (own_new w w.heap.size [] #[] 0 rfl rfl (by unfold maxLen; simp) (Nat.le_refl _)) ((Below.refl _ _).alloc (Nat.le_refl _) _)

set_option maxRecDepth 10000 in
set_option maxHeartbeats 1600000 in
theorem rfrGet_any (a : Option Addr) (l : List UInt8) (n cap : Nat) (at_ : Int) (w : World) (hn : l.length = n) (hm : n ≤ 140737488355328) (hcap : n ≤ cap) (hA : At w a l) :
    Calls Try.prog 79 #[.slice a n cap, .int .i64 at_] w fun e w' => GetPost (fGet l at_) w.heap.size e w' ∧ Below w.heap.size w w' := by
  have HN := hid hn
  have HA := hid hA
  clear hn hA
  have no : ∀ (z : Int) (w' : World) (B : Nat), fGet l at_ = ([], at_, z) → GetPost (fGet l at_) B (.returned (.tuple #[.slice none 0 0, .int .i64 at_, .int .i64 z])) w' := by
    intro z w' B h
    rw [h]
    exact ⟨none, 0, rfl, Own.nil _ _⟩
  have No := hid no
  clear no
  by_cases q0 : at_ < 0
  · have HF : Hid (fGet l at_ = ([], at_, 2)) := by rw [Hid, fGet, if_pos (.inl q0)]
    go_enter Try.func79, Try.ntmps79
    go_wp2
    go_ret3
    exact ⟨No.out _ _ _ HF.out, Below.refl _ _⟩
  obtain ⟨k, rfl⟩ := Int.eq_ofNat_of_zero_le (show 0 ≤ at_ by omega)
  by_cases q1 : n < k
  · have HF : Hid (fGet l k = ([], (k : Int), 2)) := by rw [Hid, fGet, if_pos (.inr (by rw [HN.out]; omega))]
    have g1 : decide (n < k) = true := decide_eq_true q1
    go_enter Try.func79, Try.ntmps79
    go_wp2
    go_ret3
    exact ⟨No.out _ _ _ HF.out, Below.refl _ _⟩
  have hF1 : fGet l k = if l[k]?.getD 0 = 0 then ([], (k : Int), 0) else fNum l k (getNum l k) := by
    rw [fGet, if_neg (by rw [HN.out]; omega), Int.toNat_natCast]
  have g1 : decide (n < k) = false := decide_eq_false q1
  by_cases q2 : k = n
  · subst q2
    have HF : Hid (fGet l k = ([], (k : Int), 0)) := by rw [Hid, hF1, if_pos (by rw [List.getElem?_eq_none (by have := HN.out; omega)]; rfl)]
    clear hF1
    go_enter Try.func79, Try.ntmps79
    go_wp2
    go_ret3
    exact ⟨No.out _ _ _ HF.out, Below.refl _ _⟩
  have hkl : k < l.length := by rw [HN.out]; omega
  have g2 : ((k : Int) == (n : Int)) = false := by simp; omega
  have i0 := fun wx => idx_at a n cap (fun h => HA.out.ok (by rw [HN.out]; exact h)) k k rfl (by omega) wx
  have x0 := HA.out.cell hkl
  have hzk : l[k]?.getD 0 = l[k] := by rw [List.getElem?_eq_getElem hkl, Option.getD_some]
  rw [hzk] at hF1
  have HZ := hid hzk
  clear hzk
  generalize l[k] = z at *
  generalize adr a k = A at *
  by_cases q3 : z = 0
  · subst q3
    have HF : Hid (fGet l k = ([], (k : Int), 0)) := by rw [Hid, hF1, if_pos rfl]
    clear hF1
    have g3 : (((0 : UInt8).toNat : Int) == 0) = true := rfl
    go_enter Try.func79, Try.ntmps79
    go_wp2
    go_ret3
    exact ⟨No.out _ _ _ HF.out, Below.refl _ _⟩
  have g3 : ((z.toNat : Int) == 0) = false := by
    have : z.toNat ≠ 0 := fun h => q3 (by apply UInt8.toNat.inj; simpa using h)
    simp; omega
  rw [if_neg q3] at hF1
  have HF1 := hid hF1
  have HZ0 : Hid (l[k]?.getD 0 ≠ 0) := by rw [Hid, HZ.out]; exact q3
  clear hF1 q3
  cases hg : getNum l k with
  | none =>
    have HG := hid hg
    have HF : Hid (fGet l k = ([], (k : Int), 2)) := by rw [Hid, HF1.out, hg]; rfl
    clear hg
    go_enter Try.func79, Try.ntmps79
    go_wp2_with fail
    refine (rgetNum_any a l n cap k w HN.out hm HA.out).mono ?_
    rintro e w1 ⟨rfl, hb⟩
    rw [HG.out]
    unfold res3
    have HB := hid hb
    clear hb
    go_wp2
    go_ret3
    exact ⟨No.out _ _ _ HF.out, HB.out⟩
  | some q =>
    obtain ⟨m, x⟩ := q
    have hgs := getNum_some hg
    rw [HN.out] at hgs
    have HG := hid hg
    have hm1 := getNum_pos hg HZ0.out
    have HF2 : Hid (fGet l k = rBody l k m x) := by rw [Hid, HF1.out, hg, rBody_eq hg hm1]; rfl
    clear hg
    obtain ⟨_, hkx, hxn, _⟩ := hgs
    have hkx' : k < x := by omega
    have g0 : decide ((m : Int) < 1) = false := decide_eq_false (by omega)
    by_cases q5 : 4000 < m
    · have HF : Hid (fGet l k = ([], (k : Int), 2)) := by rw [Hid, HF2.out, rBody, if_pos (.inl q5)]
      have g4 : decide ((4000 : Int) < (m : Int)) = true := decide_eq_true (by omega)
      go_enter Try.func79, Try.ntmps79
      go_wp2_with fail
      refine (rgetNum_any a l n cap k w HN.out hm HA.out).mono ?_
      rintro e w1 ⟨rfl, hb⟩
      rw [HG.out]
      unfold res3
      have HB := hid hb
      clear hb
      go_wp2
      go_ret3
      exact ⟨No.out _ _ _ HF.out, HB.out⟩
    have g4 : decide ((4000 : Int) < (m : Int)) = false := decide_eq_false (by omega)
    by_cases q6 : n < x + m
    · have HF : Hid (fGet l k = ([], (k : Int), 2)) := by rw [Hid, HF2.out, rBody, if_pos (.inr (by rw [HN.out]; exact q6))]
      have g5 : decide ((n : Int) - (x : Int) < (m : Int)) = true := decide_eq_true (by omega)
      go_enter Try.func79, Try.ntmps79
      go_wp2_with fail
      refine (rgetNum_any a l n cap k w HN.out hm HA.out).mono ?_
      rintro e w1 ⟨rfl, hb⟩
      rw [HG.out]
      unfold res3
      have HB := hid hb
      clear hb
      go_wp2
      go_ret3
      exact ⟨No.out _ _ _ HF.out, HB.out⟩
    have g5 : decide ((n : Int) - (x : Int) < (m : Int)) = false := decide_eq_false (by omega)
    have HR : Hid (rBody l k m x = if n < k + (frameB ((l.drop x).take m)).length ∨ frameB ((l.drop x).take m) ≠ (l.drop k).take (frameB ((l.drop x).take m)).length then ([], (k : Int), 2)
        else ((l.drop x).take m, ((k + (frameB ((l.drop x).take m)).length : Nat) : Int), 1)) := by rw [Hid, rBody, HN.out, if_neg (by omega)]
    have ic := cut_lhI a n cap x (x + m) (x : Int) ((x : Int) + (m : Int)) rfl (by omega) (by omega) (by omega)
    have HAc := hid (HA.out.cut x m cap (by omega))
    have HLc : Hid (((l.drop x).take m).length = m) := by rw [Hid, List.length_take, List.length_drop, HN.out]; omega
    generalize (l.drop x).take m = p at *
    obtain ⟨N, hN⟩ : ∃ N, (frameB p).length = N := ⟨_, rfl⟩
    rw [hN] at HR
    have HFN := hid hN
    have hNb : N ≤ 5000 := by
      rw [← hN, frameB]
      split
      · simp
      · have := codeNum_len (p.length : Int)
        simp only [List.length_append, putB_length, List.length_singleton]; omega
    have ic2 := fun (h : k + N ≤ n) => cut_lhI a n cap k (k + N) (k : Int) ((k : Int) + (N : Int)) rfl (by omega) (by omega) (by omega)
    have IC2 := hid ic2
    clear hN ic2
    by_cases q7 : n < k + N
    · have HF : Hid (fGet l k = ([], (k : Int), 2)) := by rw [Hid, HF2.out, HR.out, if_pos (.inl q7)]
      have g7 : decide ((n : Int) - (k : Int) < (N : Int)) = true := decide_eq_true (by omega)
      go_enter Try.func79, Try.ntmps79
      go_wp2_with fail
      refine (rgetNum_any a l n cap k w HN.out hm HA.out).mono ?_
      rintro e w1 ⟨rfl, hb⟩
      rw [HG.out]
      unfold res3
      have S1 := (St.start w).grow hb
      clear hb
      go_wp2_with (at_builtin; refine wpList_app (by rfl) (.tmp 59) (.tmp 65) 27 27 27 rfl rfl _ _ rfl rfl (S1.lit0.app 0 rfl _ p m _ HLc.out (by exact (S1.alloc _).old HAc.out) m (by simp) (by omega)) ?_; rintro v2 w2 ⟨⟨a2, c2, rfl⟩, S2⟩)
      refine (rfrPut_any a2 p m c2 w2 HLc.out (by omega) (by exact S2.at 0 rfl)).mono ?_
      rintro e w3 ⟨a3, c3, rfl, ho3, hb3⟩
      have S3 := S2.grow hb3
      rw [HFN.out]
      clear ho3 hb3
      go_wp2
      go_ret3
      exact ⟨No.out _ _ _ HF.out, S3.fin⟩
    have g7 : decide ((n : Int) - (k : Int) < (N : Int)) = false := decide_eq_false (by omega)
    have ic2 := IC2.out (by omega)
    have HAk := hid (HA.out.cut k N cap (by omega))
    have HLk : Hid ((((l.drop k).take N)).length = N) := by rw [Hid, List.length_take, List.length_drop, HN.out]; omega
    obtain ⟨t, ht⟩ : ∃ t, (frameB p == (l.drop k).take N) = t := ⟨_, rfl⟩
    have HT := hid ht
    clear ht IC2
    go_enter Try.func79, Try.ntmps79
    go_wp2_with fail
    refine (rgetNum_any a l n cap k w HN.out hm HA.out).mono ?_
    rintro e w1 ⟨rfl, hb⟩
    rw [HG.out]
    unfold res3
    have S1 := (St.start w).grow hb
    clear hb
    go_wp2_with (at_builtin; refine wpList_app (by rfl) (.tmp 59) (.tmp 65) 27 27 27 rfl rfl _ _ rfl rfl (S1.lit0.app 0 rfl _ p m _ HLc.out (by exact (S1.alloc _).old HAc.out) m (by simp) (by omega)) ?_; rintro v2 w2 ⟨⟨a2, c2, rfl⟩, S2⟩)
    refine (rfrPut_any a2 p m c2 w2 HLc.out (by omega) (by exact S2.at 0 rfl)).mono ?_
    rintro e w3 ⟨a3, c3, rfl, ho3, hb3⟩
    have S3 := S2.bytes ho3 hb3
    rw [HFN.out] at S3 ⊢
    clear ho3 hb3
    go_wp2_with fail
    refine (bytes_any _ _ (frameB p) _ _ _ _ _ w3 HFN.out HLk.out (by unfold maxLen; omega) (by unfold maxLen; omega) (by exact S3.at 1 rfl) (by exact S3.old HAk.out)).mono ?_
    rintro e w4 ⟨rfl, n4, rfl⟩
    rw [HT.out]
    have S4 := S3.drewN n4
    cases t with
    | false =>
      have HF : Hid (fGet l k = ([], (k : Int), 2)) := by
        rw [Hid, HF2.out, HR.out, if_pos (.inr (by have := HT.out; simpa using this))]
      go_wp2
      go_ret3
      exact ⟨No.out _ _ _ HF.out, S4.fin⟩
    | true =>
      have HF : Hid (fGet l k = (p, ((k + N : Nat) : Int), 1)) := by
        have := HT.out
        rw [beq_iff_eq] at this
        rw [Hid, HF2.out, HR.out, if_neg (by rw [this]; simp; omega)]
      go_wp2
      go_ret3
      refine ⟨?_, S4.fin⟩
      rw [HF.out]
      have hl := HLc.out
      refine ⟨a2, c2, ?_, by rw [hl]; exact S4.ownAt 0 rfl⟩
      rw [hl]
      have e3 : (k : Int) + (N : Int) = ((k + N : Nat) : Int) := by omega
      rw [← e3]
      rfl

end Go.Proofs.Ytmfbbonppmhabaa

namespace Go.Proofs.Ytmfbbonppmhabaa
set_option linter.unusedVariables false
set_option linter.unusedSimpArgs false
open Go.RowKit

def fAllF : Nat → List UInt8 → Int → List (List UInt8) × Int
  | 0, _, at_ => ([], at_)
  | f + 1, l, at_ => if (fGet l at_).2.2 = 1 then ((fGet l at_).1 :: (fAllF f l (fGet l at_).2.1).1, (fAllF f l (fGet l at_).2.1).2) else ([], at_)
def fAll (l : List UInt8) (at_ : Int) : List (List UInt8) × Int := fAllF (l.length + 1) l at_
theorem fGet_one {l : List UInt8} {at_ : Int} (h : (fGet l at_).2.2 = 1) : 0 ≤ at_ ∧ at_ < (fGet l at_).2.1 ∧ (fGet l at_).2.1 ≤ l.length := by
  unfold fGet at h ⊢
  split at h
  · cases h
  rename_i h1
  rw [if_neg h1]
  split at h
  · cases h
  rename_i h2
  rw [if_neg h2]
  cases hg : getNum l at_ with
  | none => rw [hg] at h; cases h
  | some q =>
    rw [hg] at h
    obtain ⟨n, x⟩ := q
    have hs := getNum_some hg
    simp only [fNum] at h ⊢
    unfold fBody at h ⊢
    split at h
    · cases h
    rename_i h3
    rw [if_neg h3]
    split at h
    · rename_i h4
      rw [if_pos h4]
      exact ⟨by omega, by show at_ < ((x + n + 5 : Nat) : Int); omega, by show ((x + n + 5 : Nat) : Int) ≤ _; omega⟩
    · cases h
theorem fAllF_stop {l : List UInt8} {at_ : Int} (h : (fGet l at_).2.2 ≠ 1) : ∀ f, fAllF f l at_ = ([], at_)
  | 0 => rfl
  | f + 1 => by rw [fAllF, if_neg h]
/-- How far one has come. -/
structure AllAt (l : List UInt8) (at0 at_ : Int) (ps : List (List UInt8)) : Prop where
  some_ : ∃ f, fAll l at0 = (ps ++ (fAllF f l at_).1, (fAllF f l at_).2) ∧ ((l.length : Int) < f + at_ ∨ at_ < 0)
theorem AllAt.start (l : List UInt8) (at0 : Int) : AllAt l at0 at0 [] := ⟨l.length + 1, rfl, by omega⟩
theorem AllAt.step {l : List UInt8} {at0 at_ : Int} {ps : List (List UInt8)} (h : AllAt l at0 at_ ps) (h1 : (fGet l at_).2.2 = 1) : AllAt l at0 (fGet l at_).2.1 (ps ++ [(fGet l at_).1]) := by
  obtain ⟨f, e, hf⟩ := h.some_
  have g := fGet_one h1
  cases f with
  | zero => exfalso; omega
  | succ f =>
    rw [fAllF, if_pos h1] at e
    refine ⟨f, ?_, by omega⟩
    rw [e]
    simp
theorem AllAt.stop {l : List UInt8} {at0 at_ : Int} {ps : List (List UInt8)} (h : AllAt l at0 at_ ps) (h1 : (fGet l at_).2.2 ≠ 1) : fAll l at0 = (ps, at_) := by
  obtain ⟨f, e, _⟩ := h.some_
  rw [e, fAllF_stop h1, List.append_nil]
/-- What an element's header says. -/
structure BS.Hd (x : BS) : Prop where
  len : x.l.length = x.n
  le : x.n ≤ x.c
  big : x.c ≤ maxLen
  nil : x.a = none → x.c = 0
theorem Own.hd {w : World} {B : Nat} {a : Option Addr} {n c : Nat} {l : List UInt8} (h : Own w B (.slice a n c) l) : BS.Hd ⟨a, n, c, l⟩ := by
  obtain ⟨a', c', e, h1, h2, h3, _⟩ := OwnG.at eBok ((ownB _ _ _ _).2 h)
  cases e
  exact ⟨rfl, h1, h2, h3⟩
def AllPost (w : World) (r : List (List UInt8) × Int) (e : Ending) (w' : World) : Prop :=
  ∃ a c xs, e = .returned (.tuple #[.slice a r.1.length c, .int .i64 r.2]) ∧ xs.map BS.l = r.1 ∧ (∀ x ∈ xs, BS.Hd x) ∧ St w w' [rowsT eS bsRefs (.slice a r.1.length c) xs]

set_option maxRecDepth 10000 in
set_option maxHeartbeats 1600000 in
theorem frAll_any (a : Option Addr) (l : List UInt8) (n cap : Nat) (at_ : Int) (w : World) (hn : l.length = n) (hm : n ≤ 1000000) (hcap : n ≤ cap) (hA : At w a l) (hk0 : -9223372036854775808 ≤ at_) (hk1 : at_ ≤ 9223372036854775807) :
    Calls Try.prog 55 #[.slice a n cap, .int .i64 at_] w fun e w' => AllPost w (fAll l at_) e w' := by
  have HN := hid hn
  have HA := hid hA
  clear hn hA
  have S0 := (St.start w).rowsNil (e := eS) (refs := bsRefs)
  go_enter Try.func55, Try.ntmps55
  go_wp2_with fail
  go_loopw [1, 6] (fun i v wr => ∃ (at1 : Int) (xs : List BS) (a1 : Option Addr) (c1 : Nat), i = .int .i64 at1 ∧ v = .slice a1 xs.length c1 ∧ (xs = [] ∨ 0 ≤ at1 ∧ at1 ≤ n ∧ (xs.length : Int) ≤ at1) ∧ AllAt l at_ at1 (xs.map BS.l) ∧ (∀ x ∈ xs, BS.Hd x) ∧ St w wr [rowsT eS bsRefs (.slice a1 xs.length c1) xs]) (fun i _ _ => (n + 1 - intOf i).toNat)
  case atStart => exact ⟨at_, [], none, 0, rfl, rfl, .inl rfl, AllAt.start _ _, by simp, S0⟩
  case round =>
    obtain ⟨at1, xs, a1, c1, rfl, rfl, hxs, hall, hhd, Sk⟩ := hrel
    have HAll := hid hall
    have HHd := hid hhd
    have HXs := hid hxs
    obtain ⟨r, hr⟩ : ∃ r, fGet l at1 = r := ⟨_, rfl⟩
    have HR := hid hr
    clear hall hhd hxs hr
    by_cases hw : r.2.2 = 1
    case neg =>
      have HW := hid hw
      have g1 : (r.2.2 != 1) = true := by simpa using hw
      clear hw
      go_wp2_with fail
      refine (frGet_any a l n cap at1 wr HN.out (by omega) hcap (by exact HA.out.all Sk.fin)).mono ?_
      rintro e w1 ⟨⟨a2, c2, rfl, ho⟩, hb⟩
      rw [HR.out] at ho ⊢
      have S1 := Sk.grow hb
      clear ho hb
      go_wp2
      go_ret2
      have ef : fAll l at_ = (xs.map BS.l, at1) := HAll.out.stop (by rw [HR.out]; exact HW.out)
      rw [ef]
      exact ⟨a1, c1, xs, by simp, rfl, HHd.out, by simpa using S1⟩
    · have g1 : (r.2.2 != 1) = false := by simpa using hw
      have h1 := fGet_one (l := l) (at_ := at1) (by rw [HR.out]; exact hw)
      have HS := hid (HAll.out.step (by rw [HR.out]; exact hw))
      rw [HR.out] at h1 HS
      rw [HN.out] at h1
      have hlen : xs.length ≤ n := by
        rcases HXs.out with h | h
        · rw [h]; exact Nat.zero_le _
        · omega
      have hx2 : (xs.length : Int) + 1 ≤ r.2.1 := by
        rcases HXs.out with h | h
        · rw [h]; simp; omega
        · omega
      clear hw
      go_wp2_with fail
      refine (frGet_any a l n cap at1 wr HN.out (by omega) hcap (by exact HA.out.all Sk.fin)).mono ?_
      rintro e w1 ⟨⟨a2, c2, rfl, ho⟩, hb⟩
      rw [HR.out] at ho ⊢
      have S1 := Sk.bytes ho hb
      have HO := hid (Own.hd ho)
      clear ho hb
      obtain ⟨p, nx, wh⟩ := r
      obtain ⟨m, hm0⟩ : ∃ m, p.length = m := ⟨_, rfl⟩
      have HM := hid hm0
      rw [hm0] at S1 HO ⊢
      clear hm0
      go_wp2_with (at_builtin; refine wpList_app (by rfl) (.tmp 21) (.tmp 23) 22 22 22 rfl rfl _ _ rfl rfl (St.rowsApp eSok S1 ⟨a2, m, c2, p⟩ rfl w1.heap.size rfl _ (by rfl) (xs.length + 1) rfl (by show (xs.length + 1) * 24 ≤ _; omega) (by unfold maxLen; omega)) ?_; rintro v3 w3 ⟨⟨a3, c3, rfl⟩, S3⟩)
      go_roundw
      case rel => exact ⟨nx, xs ++ [⟨a2, m, c2, p⟩], a3, c3, rfl, by simp, .inr ⟨by have := h1.1; omega, h1.2.2, by simpa using hx2⟩, by simpa using HS.out, by
        intro x hx
        rcases List.mem_append.1 hx with hx | hx
        · exact HHd.out x hx
        · simp at hx; subst hx; exact HO.out, by simpa using S3⟩
      case measure => simp [intOf]; omega

set_option maxRecDepth 10000 in
set_option maxHeartbeats 1600000 in
theorem rfrAll_any (a : Option Addr) (l : List UInt8) (n cap : Nat) (at_ : Int) (w : World) (hn : l.length = n) (hm : n ≤ 1000000) (hcap : n ≤ cap) (hA : At w a l) (hk0 : -9223372036854775808 ≤ at_) (hk1 : at_ ≤ 9223372036854775807) :
    Calls Try.prog 65 #[.slice a n cap, .int .i64 at_] w fun e w' => AllPost w (fAll l at_) e w' := by
  have HN := hid hn
  have HA := hid hA
  clear hn hA
  have S0 := (St.start w).rowsNil (e := eS) (refs := bsRefs)
  go_enter Try.func65, Try.ntmps65
  go_wp2_with fail
  go_loopw [1, 6, 7] (fun i v q wr => ∃ (at1 z : Int) (xs : List BS) (a1 : Option Addr) (c1 : Nat), i = .int .i64 at1 ∧ v = .slice a1 xs.length c1 ∧ q = .int .i64 z ∧ (z = 1 → xs = [] ∨ 0 ≤ at1 ∧ at1 ≤ n ∧ (xs.length : Int) ≤ at1) ∧ (z = 1 → AllAt l at_ at1 (xs.map BS.l)) ∧ (z ≠ 1 → fAll l at_ = (xs.map BS.l, at1)) ∧ (∀ x ∈ xs, BS.Hd x) ∧ St w wr [rowsT eS bsRefs (.slice a1 xs.length c1) xs]) (fun i _ q _ => if intOf q = 1 then (n + 2 - intOf i).toNat + 1 else 0)
  case atStart => exact ⟨at_, 1, [], none, 0, rfl, rfl, rfl, fun _ => .inl rfl, fun _ => AllAt.start _ _, fun h => absurd rfl h, by simp, S0⟩
  case round =>
    obtain ⟨at1, z, xs, a1, c1, rfl, rfl, rfl, hxs, hall, hfin, hhd, Sk⟩ := hrel
    have HHd := hid hhd
    clear hhd
    by_cases hz : z = 1
    case neg =>
      have ef := hid (hfin hz)
      have g0 : (z == 1) = false := by simpa using hz
      clear hxs hall hfin hz
      go_wp2
      go_ret2
      rw [ef.out]
      exact ⟨a1, c1, xs, by simp, rfl, HHd.out, by simpa using Sk⟩
    subst hz
    have HAll := hid (hall rfl)
    have HXs := hid (hxs rfl)
    obtain ⟨r, hr⟩ : ∃ r, fGet l at1 = r := ⟨_, rfl⟩
    have HR := hid hr
    clear hall hxs hr hfin
    by_cases hw : r.2.2 = 1
    case neg =>
      have HW := hid hw
      have g1 : (r.2.2 == 1) = false := by simpa using hw
      clear hw
      go_wp2_with fail
      refine (rfrGet_any a l n cap at1 wr HN.out (by omega) hcap (by exact HA.out.all Sk.fin)).mono ?_
      rintro e w1 ⟨⟨a2, c2, rfl, ho⟩, hb⟩
      rw [HR.out] at ho ⊢
      have S1 := Sk.grow hb
      clear ho hb
      go_wp2
      go_roundw
      case rel => exact ⟨at1, r.2.2, xs, a1, c1, rfl, rfl, rfl, fun h => absurd h HW.out, fun h => absurd h HW.out, fun _ => HAll.out.stop (by rw [HR.out]; exact HW.out), HHd.out, S1⟩
      case measure =>
        have := HW.out
        simp [intOf, this]
    · have g1 : (r.2.2 == 1) = true := by simpa using hw
      have h1 := fGet_one (l := l) (at_ := at1) (by rw [HR.out]; exact hw)
      have HS := hid (HAll.out.step (by rw [HR.out]; exact hw))
      rw [HR.out] at h1 HS
      rw [HN.out] at h1
      have hlen : xs.length ≤ n := by
        rcases HXs.out with h | h
        · rw [h]; exact Nat.zero_le _
        · omega
      have hx2 : (xs.length : Int) + 1 ≤ r.2.1 := by
        rcases HXs.out with h | h
        · rw [h]; simp; omega
        · omega
      have HW := hid hw
      clear hw
      go_wp2_with fail
      refine (rfrGet_any a l n cap at1 wr HN.out (by omega) hcap (by exact HA.out.all Sk.fin)).mono ?_
      rintro e w1 ⟨⟨a2, c2, rfl, ho⟩, hb⟩
      rw [HR.out] at ho ⊢
      have S1 := Sk.bytes ho hb
      have HO := hid (Own.hd ho)
      clear ho hb
      obtain ⟨p, nx, wh⟩ := r
      obtain ⟨m, hm0⟩ : ∃ m, p.length = m := ⟨_, rfl⟩
      have HM := hid hm0
      rw [hm0] at S1 HO ⊢
      clear hm0
      go_wp2_with (at_builtin; refine wpList_app (by rfl) (.tmp 22) (.tmp 24) 22 22 22 rfl rfl _ _ rfl rfl (St.rowsApp eSok S1 ⟨a2, m, c2, p⟩ rfl w1.heap.size rfl _ (by rfl) (xs.length + 1) rfl (by show (xs.length + 1) * 24 ≤ _; omega) (by unfold maxLen; omega)) ?_; rintro v3 w3 ⟨⟨a3, c3, rfl⟩, S3⟩)
      go_roundw
      case rel => exact ⟨nx, wh, xs ++ [⟨a2, m, c2, p⟩], a3, c3, rfl, by simp, rfl, fun _ => .inr ⟨by have := h1.1; omega, h1.2.2, by simpa using hx2⟩, fun _ => by simpa using HS.out, fun h => absurd HW.out h, by
        intro x hx
        rcases List.mem_append.1 hx with hx | hx
        · exact HHd.out x hx
        · simp at hx; subst hx; exact HO.out, by simpa using S3⟩
      case measure =>
        have h2 : wh = 1 := HW.out
        subst h2
        simp [intOf]; omega

/-- Two lists of bytes, held against each other. -/
theorem AtG.cellsS {w : World} {a : Option Addr} {l : List BS} (h : AtG eS w a l) {k : Nat} (hk : k < l.length) : w.cell? (adr a k) = some (.slice l[k].a l[k].n l[k].c) := h.cellS hk
set_option maxRecDepth 10000 in
set_option maxHeartbeats 1600000 in
theorem same_any (a b : Option Addr) (xs ys : List BS) (n k ca cb : Nat) (w : World) (hn : xs.length = n) (hk : ys.length = k) (hnm : n ≤ 1000000) (hkm : k ≤ 1000000) (hA : AtG eS w a xs) (hB : AtG eS w b ys)
    (hx : ∀ x ∈ xs, BS.Hd x ∧ At w x.a x.l) (hy : ∀ x ∈ ys, BS.Hd x ∧ At w x.a x.l) :
    Calls Try.prog 24 #[.slice a n ca, .slice b k cb] w fun e w' => e = .returned (.bool (xs.map BS.l == ys.map BS.l)) ∧ Below w.heap.size w w' := by
  have HN := hid hn
  have HK := hid hk
  have HA := hid hA
  have HB := hid hB
  have HX := hid hx
  have HY := hid hy
  clear hn hk hA hB hx hy
  by_cases q0 : n = k
  case neg =>
    have e : (xs.map BS.l == ys.map BS.l) = false := by
      rw [beq_eq_false_iff_ne]
      intro h
      apply q0
      have := congrArg List.length h
      rw [List.length_map, List.length_map, HN.out, HK.out] at this
      exact this
    have g0 : ((n : Int) != (k : Int)) = true := by simp; omega
    rw [e]
    clear e
    go_enter Try.func24, Try.ntmps24
    go_wp2
    go_ret
    exact ⟨rfl, Below.refl _ _⟩
  subst q0
  go_enter Try.func24, Try.ntmps24
  go_wp2_with fail
  go_loopw [5] (fun i wr => ∃ j : Nat, j ≤ n ∧ i = .int .i64 j ∧ (xs.map BS.l).take j = (ys.map BS.l).take j ∧ Below w.heap.size w wr) (fun i _ => n - (intOf i).toNat)
  case atStart => exact ⟨0, Nat.zero_le _, rfl, rfl, Below.refl _ _⟩
  case round =>
    obtain ⟨j, hj, rfl, heq, hb⟩ := hrel
    have HE := hid heq
    have HBl := hid hb
    clear heq hb
    by_cases hlt : j < n
    · have hjx : j < xs.length := by rw [HN.out]; exact hlt
      have hjy : j < ys.length := by rw [HK.out]; exact hlt
      have i1 := fun wx => idxS a n ca (fun h => HA.out.ok (by rw [HN.out]; exact h)) j j rfl hlt wx
      have i2 := fun wx => idxS b n cb (fun h => HB.out.ok (by rw [HK.out]; exact h)) j j rfl hlt wx
      have HC : Hid (∀ w', Below w.heap.size w w' → w'.cell? (adr a j) = some (.slice xs[j].a xs[j].n xs[j].c) ∧ w'.cell? (adr b j) = some (.slice ys[j].a ys[j].n ys[j].c)) := fun w' h => ⟨(HA.out.all eSok h).cellS hjx, (HB.out.all eSok h).cellS hjy⟩
      have hx1 := HX.out _ (List.getElem_mem hjx)
      have hy1 := HY.out _ (List.getElem_mem hjy)
      have HX1 := hid (⟨hx1.1, hx1.2.all HBl.out⟩ : BS.Hd xs[j] ∧ At wr xs[j].a xs[j].l)
      have HY1 := hid (⟨hy1.1, hy1.2.all HBl.out⟩ : BS.Hd ys[j] ∧ At wr ys[j].a ys[j].l)
      have HS1 : Hid ((xs[j].l == ys[j].l) = true → (xs.map BS.l).take (j + 1) = (ys.map BS.l).take (j + 1)) := by
        intro h
        rw [beq_iff_eq] at h
        rw [List.take_succ_eq_append_getElem (by simpa using hjx), List.take_succ_eq_append_getElem (by simpa using hjy), HE.out, List.getElem_map, List.getElem_map, h]
      have HS0 : Hid ((xs[j].l == ys[j].l) = false → (xs.map BS.l == ys.map BS.l) = false) := by
        intro h
        rw [beq_eq_false_iff_ne] at h ⊢
        intro h2
        apply h
        have e1 : (xs.map BS.l)[j]? = (ys.map BS.l)[j]? := by rw [h2]
        rw [List.getElem?_map, List.getElem?_map, List.getElem?_eq_getElem hjx, List.getElem?_eq_getElem hjy] at e1
        simpa using e1
      clear hx1 hy1
      generalize xs[j] = x at *
      generalize ys[j] = y at *
      generalize adr a j = A at *
      generalize adr b j = D at *
      obtain ⟨t, ht⟩ : ∃ t, (x.l == y.l) = t := ⟨_, rfl⟩
      have HT := hid ht
      clear ht
      go_wp2_with fail
      refine wp_region_held_drew (S := (fun w' => w'.cell? A = some (.slice x.a x.n x.c) ∧ w'.cell? D = some (.slice y.a y.n y.c))) (by kernel_rfl) (by exact HC.out _ (below_drewN HBl.out 1)) (fun hHeld => ?_)
      change wpAnyH _ _ _ _ _ 10 (Array.replicate 10 false) _ _
      refine wpAnyH_take (i := 0) (v := ?v1) (ops_at rfl) (by kernel_rfl) (by kernel_rfl) (by kernel_rfl) (fun _ _ _ h => h) (Or.inl ⟨by rfl, ?hy1⟩) (by assumption) ?rest1
      case hy1 => intro w' hSw; (try dsimp only at hSw); go_simp; try with_reducible rfl
      try simp only [Act.put, List.setIfInBounds_toArray, List.set_cons_zero, List.set_cons_succ]
      refine wpAnyH_take (i := 1) (v := ?v2) (ops_at rfl) (by kernel_rfl) (by kernel_rfl) (by kernel_rfl) (fun _ _ _ h => h) (Or.inl ⟨by rfl, ?hy2⟩) (by assumption) ?rest2
      case hy2 => intro w' hSw; (try dsimp only at hSw); go_simp; try with_reducible rfl
      try simp only [Act.put, List.setIfInBounds_toArray, List.set_cons_zero, List.set_cons_succ]
      refine wpAnyH_take (i := 2) (v := ?v3) (ops_at rfl) (by kernel_rfl) (by kernel_rfl) (by kernel_rfl) (fun _ _ _ h => h) (Or.inl ⟨by rfl, ?hy3⟩) (by assumption) ?rest3
      case hy3 => intro w' hSw; (try dsimp only at hSw); go_simp; try with_reducible rfl
      try simp only [Act.put, List.setIfInBounds_toArray, List.set_cons_zero, List.set_cons_succ]
      refine wpAnyH_take (i := 3) (v := ?v4) (ops_at rfl) (by kernel_rfl) (by kernel_rfl) (by kernel_rfl) (fun _ _ _ h => h) (Or.inl ⟨by rfl, ?hy4⟩) (by assumption) ?rest4
      case hy4 => intro w' hSw; (try dsimp only at hSw); go_simp; try with_reducible rfl
      try simp only [Act.put, List.setIfInBounds_toArray, List.set_cons_zero, List.set_cons_succ]
      refine wpAnyH_take (i := 4) (v := ?v5) (ops_at rfl) (by kernel_rfl) (by kernel_rfl) (by kernel_rfl) (fun _ _ _ h => h) (Or.inl ⟨by rfl, ?hy5⟩) (by assumption) ?rest5
      case hy5 => intro w' hSw; (try dsimp only at hSw); go_simp; try with_reducible rfl
      try simp only [Act.put, List.setIfInBounds_toArray, List.set_cons_zero, List.set_cons_succ]
      refine wpAnyH_take (i := 5) (v := ?v6) (ops_at rfl) (by kernel_rfl) (by kernel_rfl) (by kernel_rfl) (fun _ _ _ h => h) (Or.inl ⟨by rfl, ?hy6⟩) (by assumption) ?rest6
      case hy6 => intro w' hSw; (try dsimp only at hSw); go_simp; try with_reducible rfl
      try simp only [Act.put, List.setIfInBounds_toArray, List.set_cons_zero, List.set_cons_succ]
      refine wpAnyH_take (i := 6) (v := ?v7) (ops_at rfl) (by kernel_rfl) (by kernel_rfl) (by kernel_rfl) (fun _ _ _ h => h) (Or.inl ⟨by rfl, ?hy7⟩) (by assumption) ?rest7
      case hy7 => intro w' hSw; (try dsimp only at hSw); go_simp; try with_reducible rfl
      try simp only [Act.put, List.setIfInBounds_toArray, List.set_cons_zero, List.set_cons_succ]
      refine wpAnyH_take (i := 7) (v := ?v8) (ops_at rfl) (by kernel_rfl) (by kernel_rfl) (by kernel_rfl) (fun _ _ _ h => h) (Or.inl ⟨by rfl, ?hy8⟩) (by assumption) ?rest8
      case hy8 => intro w' hSw; (try dsimp only at hSw); go_simp; try with_reducible rfl
      try simp only [Act.put, List.setIfInBounds_toArray, List.set_cons_zero, List.set_cons_succ]
      refine wpAnyH_ready (rs := [8]) (by kernel_rfl) (by simp) ?_
      refine AllReadyH.cons (ops_at rfl) (fun K hK => ?_) AllReadyH.nil
      go_simp
      refine (bytes_any x.a y.a x.l y.l x.n y.n x.c y.c _ HX1.out.1.len HY1.out.1.len (Nat.le_trans HX1.out.1.le HX1.out.1.big) (Nat.le_trans HY1.out.1.le HY1.out.1.big) (by exact HX1.out.2) (by exact HY1.out.2)).mono ?_
      rintro e w2 ⟨rfl, n2, rfl⟩
      rw [HT.out]
      have HB2 : Hid (Below w.heap.size w (wr.drew.drewN n2)) := below_drewN (below_drewN HBl.out 1) n2
      have HB3 : Hid (Below w.heap.size w (wr.drewN (1 + n2))) := below_drewN HBl.out (1 + n2)
      refine hK.out _ _ (by exact HC.out _ HB2.out) (fun hHeld => ?_)
      clear hK K
      try simp only [Act.put, List.setIfInBounds_toArray, List.set_cons_zero, List.set_cons_succ]
      refine wpAnyH_take (i := 9) (v := ?v10) (ops_at rfl) (by kernel_rfl) (by kernel_rfl) (by kernel_rfl) (fun _ _ _ h => h) (Or.inl ⟨by rfl, ?hy10⟩) (by assumption) ?rest10
      case hy10 => intro w' hSw; (try dsimp only at hSw); go_simp; try with_reducible rfl
      try simp only [Act.put, List.setIfInBounds_toArray, List.set_cons_zero, List.set_cons_succ]
      refine wpAnyH_done (by kernel_rfl) ?_ _
      cases t with
      | true =>
        go_wp2
        go_roundw
        case rel => exact ⟨j + 1, by omega, by go_num, HS1.out HT.out, HB3.out⟩
        case measure => simp [intOf]; omega
      | false =>
        go_wp2
        go_ret
        rw [HS0.out HT.out]
        exact ⟨rfl, HB2.out⟩
    · have ee : Hid ((xs.map BS.l == ys.map BS.l) = true) := by
        rw [Hid, beq_iff_eq]
        have := HE.out
        rwa [List.take_of_length_le (by rw [List.length_map, HN.out]; omega), List.take_of_length_le (by rw [List.length_map, HK.out]; omega)] at this
      go_wp2
      go_ret
      rw [ee.out]
      exact ⟨rfl, HBl.out⟩

end Go.Proofs.Ytmfbbonppmhabaa

namespace Go.Proofs.Ytmfbbonppmhabaa
set_option linter.unusedVariables false
set_option linter.unusedSimpArgs false
open Go.RowKit

theorem numF_ends : ∀ (f n : Nat), 1 ≤ n → n < 128 ^ f → ∃ q c, numF f n = q ++ [c] ∧ c ≠ 0
  | 0, n, h, k => by simp at k; omega
  | f + 1, n, h, k => by
    rw [numF]
    split
    · rename_i hn
      refine ⟨[], UInt8.ofNat n, rfl, ?_⟩
      intro e
      have := congrArg UInt8.toNat e
      rw [UInt8.toNat_ofNat'] at this
      simp at this; omega
    · rename_i hn
      have hp : n / 128 < 128 ^ f := by rw [Nat.pow_succ] at k; omega
      obtain ⟨q, c, e, hc⟩ := numF_ends f (n / 128) (by omega) hp
      exact ⟨UInt8.ofNat (n % 128 + 128) :: q, c, by rw [e]; rfl, hc⟩
theorem numF_head : ∀ (f n : Nat), 1 ≤ n → ∃ c q, numF (f + 1) n = c :: q ∧ c ≠ 0
  | f, n, h => by
    rw [numF]
    split
    · rename_i hn
      refine ⟨UInt8.ofNat n, [], rfl, ?_⟩
      intro e
      have := congrArg UInt8.toNat e
      rw [UInt8.toNat_ofNat'] at this
      simp at this; omega
    · rename_i hn
      refine ⟨UInt8.ofNat (n % 128 + 128), _, rfl, ?_⟩
      intro e
      have := congrArg UInt8.toNat e
      rw [UInt8.toNat_ofNat'] at this
      simp at this; omega
theorem code_ends {m : Nat} (h : 1 ≤ m) (hm : m ≤ 9007199254740991) : ∃ q c, codeNum (m : Int) = q ++ [c] ∧ c ≠ 0 := by
  rw [codeNum_yes hm]; exact numF_ends 8 m h (by omega)
theorem code_head {m : Nat} (h : 1 ≤ m) (hm : m ≤ 9007199254740991) : ∃ c q, codeNum (m : Int) = c :: q ∧ c ≠ 0 := by
  rw [codeNum_yes hm]; exact numF_head 7 m h
theorem frame_parts {p : List UInt8} (h1 : 1 ≤ p.length) (h2 : p.length ≤ 4000) : frameB p = codeNum p.length ++ (p ++ (putB (sumOf p) ++ [1])) := by
  rw [frameB, if_neg (by omega)]; simp
theorem frame_len {p : List UInt8} (h1 : 1 ≤ p.length) (h2 : p.length ≤ 4000) : (frameB p).length = (codeNum p.length).length + p.length + 5 := by
  rw [frame_parts h1 h2]; simp only [List.length_append, putB_length, List.length_singleton]; omega
theorem getNum_frame (P R : List UInt8) {p : List UInt8} (h1 : 1 ≤ p.length) (h2 : p.length ≤ 4000) : getNum (P ++ (codeNum p.length ++ R)) P.length = some (p.length, P.length + (codeNum p.length).length) := by
  have := getNum_put P R (p.length : Int) (by simp [isNum]; omega)
  rw [List.append_assoc] at this
  simpa using this
theorem fGet_num {l : List UInt8} {k m x : Nat} (hg : getNum l k = some (m, x)) (hz : l[k]?.getD 0 ≠ 0) : fGet l k = fBody l k m x := by
  have hs := getNum_some hg
  rw [fGet, if_neg (by omega), Int.toNat_natCast, if_neg hz, hg]; rfl
theorem first_ne (P R : List UInt8) {p : List UInt8} (h1 : 1 ≤ p.length) (h2 : p.length ≤ 4000) : (P ++ (codeNum p.length ++ R))[P.length]?.getD 0 ≠ 0 := by
  obtain ⟨c, q, e, hc⟩ := code_head h1 (by omega)
  rw [e]; simpa using hc
theorem fGet_put (P R : List UInt8) {p : List UInt8} (h1 : 1 ≤ p.length) (h2 : p.length ≤ 4000) : fGet (P ++ (frameB p ++ R)) P.length = (p, ((P.length + (frameB p).length : Nat) : Int), 1) := by
  have hl := frame_len h1 h2
  have e0 : P ++ (frameB p ++ R) = P ++ (codeNum p.length ++ ((p ++ (putB (sumOf p) ++ [1])) ++ R)) := by rw [frame_parts h1 h2]; simp
  have hg := getNum_frame P ((p ++ (putB (sumOf p) ++ [1])) ++ R) h1 h2
  have hz := first_ne P ((p ++ (putB (sumOf p) ++ [1])) ++ R) h1 h2
  rw [← e0] at hg hz
  rw [fGet_num hg hz, ← rBody_eq hg h1, rBody]
  have hp : ((P ++ (frameB p ++ R)).drop (P.length + (codeNum p.length).length)).take p.length = p := by
    rw [e0, ← List.drop_drop, List.drop_left' rfl, List.drop_left' rfl]
    rw [List.append_assoc p, List.take_left' rfl]
  rw [hp]
  have hk : ((P ++ (frameB p ++ R)).drop P.length).take (frameB p).length = frameB p := by rw [List.drop_left' rfl, List.take_left' rfl]
  rw [hk, if_neg (by simp only [List.length_append]; omega), if_neg (fun h => h.elim (fun h => by simp only [List.length_append] at h; omega) (fun h => h rfl))]
/-- What can be said of bytes that begin with a frame's number. -/
theorem fGet_torn {p : List UInt8} (h1 : 1 ≤ p.length) (h2 : p.length ≤ 4000) (k z : Nat) (hk : k < (frameB p).length) : fGet ((frameB p).take k ++ List.replicate z 0) 0 = ([], 0, if k = 0 then 0 else 2) := by
  have hl := frame_len h1 h2
  obtain ⟨t, ht⟩ : ∃ t, (frameB p).take k ++ List.replicate z 0 = t := ⟨_, rfl⟩
  rw [ht]
  by_cases k0 : k = 0
  · subst k0
    rw [List.take_zero, List.nil_append] at ht
    rw [fGet, if_neg (by omega), if_pos, if_pos rfl]
    subst ht
    cases z <;> simp [List.replicate]
  rw [if_neg k0]
  have hz : t[0]?.getD 0 ≠ 0 := by
    obtain ⟨c, q, e, hc⟩ := code_head h1 (by omega)
    rw [← ht, frame_parts h1 h2, e]
    obtain ⟨j, rfl⟩ := Nat.exists_eq_succ_of_ne_zero k0
    simpa using hc
  have hz' : t[(0 : Int).toNat]?.getD 0 ≠ 0 := hz
  rw [fGet, if_neg (by omega), if_neg hz']
  have htl : t.length = k + z := by rw [← ht, List.length_append, List.length_take, List.length_replicate]; omega
  cases hg : getNum t 0 with
  | none => rfl
  | some q =>
    obtain ⟨m, x⟩ := q
    have hg' : getNum t ((0 : Nat) : Int) = some (m, x) := hg
    have hs := getNum_some hg
    have hm := getNum_pos hg' hz
    have hc := getNum_code hg'
    rw [List.drop_zero, Nat.sub_zero] at hc
    simp only [fNum]
    by_cases hx : x ≤ k
    · -- the number is whole: it is the frame's
      have e1 : t.take x = (frameB p).take x := by rw [← ht, List.take_append_of_le_length (by rw [List.length_take]; omega), List.take_take, Nat.min_eq_left hx]
      have e2 : getNum (frameB p) ((0 : Nat) : Int) = some (m, x) := by
        have h3 := getNum_put [] ((frameB p).drop x) (m : Int) (by simp [isNum]; omega)
        rw [List.nil_append, hc.1, e1, List.take_append_drop] at h3
        rw [← e1, ← hc.1] at h3
        simpa [hc.2] using h3
      have e3 := getNum_frame [] (p ++ (putB (sumOf p) ++ [1])) h1 h2
      rw [List.nil_append, ← frame_parts h1 h2] at e3
      have e4 : some (m, x) = some (p.length, (codeNum p.length).length) := by rw [← e2]; simpa using e3
      cases e4
      unfold fBody
      by_cases h5 : t.length ≤ (codeNum p.length).length + p.length + 4
      · rw [if_pos (.inr h5)]
      rw [if_neg (by omega), if_neg]
      rintro ⟨_, h6⟩
      rw [← ht, List.getElem?_append_right (by rw [List.length_take]; omega), List.getElem?_replicate] at h6
      split at h6 <;> simp at h6
    · exfalso
      obtain ⟨q, c, e, hc0⟩ := code_ends hm (by omega)
      rw [e] at hc
      have e1 : t.take x = (frameB p).take k ++ List.replicate (x - k) 0 := by
        rw [← ht, List.take_append, List.take_of_length_le (by rw [List.length_take]; omega), List.take_replicate, List.length_take]
        congr 2
        omega
      rw [e1, show x - k = (x - k - 1) + 1 by omega, List.replicate_succ', ← List.append_assoc] at hc
      have := (List.append_inj' hc.1 rfl).2
      simp at this
      exact hc0 this
theorem fGet_turned {p : List UInt8} (h1 : 1 ≤ p.length) (h2 : p.length ≤ 4000) (j : Nat) (hj : (codeNum p.length).length ≤ j) (hj2 : j < (frameB p).length) (d : UInt8) (hd : d ≠ (frameB p)[j]) : fGet ((frameB p).set j d) 0 = ([], 0, 2) := by
  have hl := frame_len h1 h2
  obtain ⟨i, rfl⟩ := Nat.exists_eq_add_of_le hj
  have ef := frame_parts h1 h2
  have es : (frameB p).set ((codeNum p.length).length + i) d = codeNum p.length ++ ((p ++ (putB (sumOf p) ++ [1])).set i d) := by
    rw [ef, List.set_append_right _ _ (by omega), Nat.add_sub_cancel_left]
  have hd' : d ≠ (p ++ (putB (sumOf p) ++ [1]))[i]'(by simp only [List.length_append, putB_length, List.length_singleton]; omega) := by
    have : (frameB p)[(codeNum p.length).length + i] = (p ++ (putB (sumOf p) ++ [1]))[i]'(by simp only [List.length_append, putB_length, List.length_singleton]; omega) := by
      simp only [ef]
      rw [List.getElem_append_right (by omega)]
      congr 1
      omega
    rw [← this]; exact hd
  obtain ⟨y, hy⟩ : ∃ y, (p ++ (putB (sumOf p) ++ [1])).set i d = y := ⟨_, rfl⟩
  have hyl : y.length = p.length + 5 := by rw [← hy]; simp only [List.length_set, List.length_append, putB_length, List.length_singleton]
  rw [es, hy]
  have hg := getNum_frame [] y h1 h2
  have hz := first_ne [] y h1 h2
  rw [List.nil_append] at hg hz
  have h3 := fGet_num hg hz
  simp only [List.length_nil, Nat.zero_add] at h3
  have h3' : fGet (codeNum p.length ++ y) 0 = fBody (codeNum p.length ++ y) 0 p.length (codeNum p.length).length := h3
  rw [h3', fBody, if_neg (by simp only [List.length_append, hyl]; omega), if_neg]
  rintro ⟨q1, q2⟩
  have hassoc : p ++ (putB (sumOf p) ++ [1]) = (p ++ putB (sumOf p)) ++ [1] := by simp
  have hpl : (p ++ putB (sumOf p)).length = p.length + 4 := by simp [putB_length]
  rw [List.drop_left' rfl] at q1
  rw [show (codeNum p.length).length + p.length + 4 = (codeNum p.length).length + (p.length + 4) by omega, List.getElem?_append_right (by omega), Nat.add_sub_cancel_left] at q2
  by_cases hi : i < p.length + 4
  · have ey : y = (p ++ putB (sumOf p)).set i d ++ [1] := by rw [← hy, hassoc, List.set_append_left _ _ (by rw [hpl]; exact hi)]
    rw [ey, List.take_left' (by rw [List.length_set, hpl])] at q1
    have := isB_turned p i d (by rw [hpl]; exact hi) (by
      have : (p ++ (putB (sumOf p) ++ [1]))[i]'(by simp only [List.length_append, putB_length, List.length_singleton]; omega) = (p ++ putB (sumOf p))[i]'(by rw [hpl]; exact hi) := by
        simp only [hassoc]
        rw [List.getElem_append_left (by rw [hpl]; exact hi)]
      rw [← this]; exact hd')
    rw [this] at q1; cases q1
  · have hi2 : i = p.length + 4 := by omega
    subst hi2
    have : (p ++ (putB (sumOf p) ++ [1]))[p.length + 4]'(by simp only [List.length_append, putB_length, List.length_singleton]; omega) = 1 := by
      simp only [hassoc]
      rw [List.getElem_append_right (by rw [hpl]; exact Nat.le_refl _)]
      simp
    rw [this] at hd'
    apply hd'
    rw [← hy, List.getElem?_set_self (by simp only [List.length_append, putB_length, List.length_singleton]; omega)] at q2
    simpa using q2

/-- Frames one behind the other. -/
theorem all_frames : ∀ (ps : List (List UInt8)) (P R : List UInt8) (at0 : Int) (qs : List (List UInt8)), (∀ p ∈ ps, 1 ≤ p.length ∧ p.length ≤ 4000) → AllAt (P ++ (ps.flatMap frameB ++ R)) at0 P.length qs →
    AllAt (P ++ (ps.flatMap frameB ++ R)) at0 ((P ++ ps.flatMap frameB).length : Nat) (qs ++ ps)
  | [], P, R, at0, qs, _, h => by simpa using h
  | p :: ps, P, R, at0, qs, hp, h => by
    have hp1 := hp p (by simp)
    have e : P ++ ((p :: ps).flatMap frameB ++ R) = P ++ (frameB p ++ (ps.flatMap frameB ++ R)) := by simp
    have hg := fGet_put P (ps.flatMap frameB ++ R) hp1.1 hp1.2
    rw [← e] at hg
    have h1 := h.step (by rw [hg])
    rw [hg] at h1
    have e2 : P ++ ((p :: ps).flatMap frameB ++ R) = (P ++ frameB p) ++ (ps.flatMap frameB ++ R) := by simp
    have h2 := all_frames ps (P ++ frameB p) R at0 (qs ++ [p]) (fun q hq => hp q (by simp [hq])) (by rw [← e2]; simpa using h1)
    rw [← e2] at h2
    have e3 : (P ++ (p :: ps).flatMap frameB) = (P ++ frameB p) ++ ps.flatMap frameB := by simp
    rw [e3]
    simpa using h2
theorem fAllF_end : ∀ (f : Nat) (l : List UInt8) (at_ : Int), 0 ≤ at_ → at_ ≤ l.length → (l.length : Int) < f + at_ → at_ ≤ (fAllF f l at_).2 ∧ (fAllF f l at_).2 ≤ l.length ∧ (fGet l (fAllF f l at_).2).2.2 ≠ 1
  | 0, l, at_, h0, h1, h2 => by omega
  | f + 1, l, at_, h0, h1, h2 => by
    rw [fAllF]
    by_cases hw : (fGet l at_).2.2 = 1
    · rw [if_pos hw]
      have hg := fGet_one hw
      have := fAllF_end f l (fGet l at_).2.1 (by omega) hg.2.2 (by omega)
      exact ⟨by show at_ ≤ (fAllF f l (fGet l at_).2.1).2; omega, this.2⟩
    · rw [if_neg hw]
      exact ⟨Int.le_refl _, h1, hw⟩

/-- Are two slices of bytes alike? -/
theorem hcmp {w0 w : World} {r : List Thing} (S : St w0 w r) (t : Bool) (a b : Option Addr) (l m : List UInt8) (n k ca cb : Nat) (ht : (l == m) = t) (hn : l.length = n) (hk : m.length = k) (hl : n ≤ maxLen) (hm : k ≤ maxLen) (hA : At w a l) (hB : At w b m) :
    Calls Try.prog 23 #[.slice a n ca, .slice b k cb] w fun e w' => e = .returned (.bool t) ∧ St w0 w' r ∧ Below w.heap.size w w' := by
  subst ht
  refine (bytes_any a b l m n k ca cb w hn hk hl hm hA hB).mono ?_
  rintro e w' ⟨rfl, n, rfl⟩
  exact ⟨rfl, S.drewN n, below_drewN (Below.refl _ _) n⟩

end Go.Proofs.Ytmfbbonppmhabaa
