/- frame.Put and the document's. -/
import Derived.Test.YtkkailggpfmgaaaFrame
import Derived.Test.YtkkailggpfmgaaaSumRef
import Derived.Test.YtkkailggpfmgaaaCodeRef
import Derived.Test.YtkkailggpfmgaaaSumMath
import Derived.Test.YtkkailggpfmgaaaCodeMath
namespace Go.Proofs.Ytkkailggpfmgaaa
set_option linter.unusedVariables false
set_option linter.unusedSimpArgs false
open Go.RowKit

/-- A payload's frame. -/
def frameB (l : List UInt8) : List UInt8 := if l.length = 0 ∨ 4000 < l.length then [] else codeNum l.length ++ l ++ putB (sumOf l) ++ [1]
theorem atG_lit {α : Type} {e : Elt α} (he : e.Ok) (w : World) (l : List α) (c : Array Value) (hc : c.toList = l.flatMap e.enc) (hm : l.length ≤ maxLen) : AtG e (w.alloc (.cells c e.E)) (some ⟨w.heap.size, 0, none⟩) l := by
  obtain ⟨a, c', e1, _, _, _, h, _⟩ := OwnG.at he (ownG_new he w w.heap.size l c l.length rfl hc hm (Nat.le_refl _))
  cases e1; exact h

set_option maxRecDepth 10000 in
set_option maxHeartbeats 1600000 in
theorem frPut_any (a : Option Addr) (l : List UInt8) (n cap : Nat) (w : World) (hn : l.length = n) (hm : n ≤ maxLen) (hcap : n ≤ cap) (hnil : a = none → cap = 0) (hA : At w a l) :
    Calls Try.prog 49 #[.slice a n cap] w fun e w' => ∃ a c, e = .returned (.slice a (frameB l).length c) ∧ Own w' w.heap.size (.slice a (frameB l).length c) (frameB l) ∧ Below w.heap.size w w' := by
  unfold maxLen at hm
  have HN := hid hn
  have HA := hid hA
  clear hn hA
  by_cases h0 : n = 0 ∨ 4000 < n
  · have e : frameB l = [] := by unfold frameB; rw [HN.out, if_pos h0]
    rw [e]
    clear e
    rcases h0 with rfl | h0
    · go_enter Try.func49, Try.ntmps49
      go_wp2
      go_ret
      exact ⟨_, _, rfl, Own.nil _ _, Below.refl _ _⟩
    · have g1 : ((n : Int) == 0) = false := by simp; omega
      have g2 : decide ((4000 : Int) < (n : Int)) = true := decide_eq_true (by omega)
      go_enter Try.func49, Try.ntmps49
      go_wp2
      go_ret
      exact ⟨_, _, rfl, Own.nil _ _, Below.refl _ _⟩
  have g1 : ((n : Int) == 0) = false := by simp; omega
  have g2 : decide ((4000 : Int) < (n : Int)) = false := decide_eq_false (by omega)
  have ef : Hid (frameB l = codeNum n ++ (l ++ (putB (sumOf l) ++ [1]))) := by
    rw [Hid, frameB, HN.out, if_neg h0]; simp
  have hcl := codeNum_len (n : Int)
  have X1 : Hid (#[Value.int .u8 1].toList = ([1] : List UInt8).map bv) := rfl
  generalize hfl : (frameB l).length = N
  have eN : Hid ((codeNum n).length + n + 5 = N) := by
    rw [Hid, ← hfl, ef.out]; simp only [List.length_append, HN.out, putB_length, List.length_singleton]; omega
  clear hfl
  go_enter Try.func49, Try.ntmps49
  go_wp2_with fail
  refine (num_any n w).mono ?_
  rintro e w1 ⟨v1, rfl, ho1, hb1⟩
  obtain ⟨a1, c1, rfl⟩ := ho1.written rfl
  have S1 := (St.start w).bytes ho1 hb1
  clear ho1 hb1
  go_wp2_with fail
  refine (of_any a l n cap w1 HN.out (by unfold maxLen; omega) (by exact S1.old HA.out)).mono ?_
  rintro e w2 ⟨rfl, rfl⟩
  go_wp2_with fail
  refine (put_any (sumOf l : Int) w1).mono ?_
  rintro e w2 ⟨v2, rfl, ho2, hb2⟩
  obtain ⟨a2, c2, rfl⟩ := ho2.written (n := 4) (putB_length _)
  have S2 := S1.bytes ho2 hb2
  clear ho2 hb2
  go_wp2_with fail
  have hm4 := fun (w' : World) => atG_lit eSok w' [⟨a1, (codeNum n).length, c1, codeNum n⟩, ⟨a, n, cap, l⟩, ⟨a2, 4, c2, putB (sumOf l)⟩, ⟨some ⟨w2.heap.size, 0, none⟩, 1, 1, [1]⟩] #[.slice a1 (codeNum n).length c1, .slice a n cap, .slice a2 4 c2, .slice (some ⟨w2.heap.size, 0, none⟩) 1 1] rfl (by simp [maxLen])
  have hm5 := hm4 (w2.alloc (.cells #[.int .u8 1] 5))
  rw [show (w2.alloc (.cells #[.int .u8 1] 5)).heap.size = w2.heap.size + 1 by simp] at hm5
  have HM4 := hid hm5
  clear hm4 hm5
  have hlit := at_lit w2 [1] #[.int .u8 1] rfl
  have hb3 : Below w2.heap.size w2 (w2.alloc (.cells #[.int .u8 1] 5)) := (Below.refl _ _).alloc (Nat.le_refl _) _
  have S3 := S2.grow hb3
  have HL := hid hlit
  have HOk : Hid (∀ (o : Obj) (x : BS), x ∈ ([⟨a1, (codeNum n).length, c1, codeNum n⟩, ⟨a, n, cap, l⟩, ⟨a2, 4, c2, putB (sumOf l)⟩, ⟨some ⟨w2.heap.size, 0, none⟩, 1, 1, [1]⟩] : List BS) → BS.Ok ((w2.alloc (.cells #[.int .u8 1] 5)).alloc o) x) := by
    intro o x hx
    have S4 := S3.alloc o
    have q1 := S4.slA 0 rfl
    have q2 := S4.slA 1 rfl
    simp at hx
    rcases hx with rfl | rfl | rfl | rfl
    · exact ⟨rfl, q1.2.1, q1.2.2.2.1, q1.2.2.2.2⟩
    · exact ⟨HN.out, hcap, hnil, S4.old HA.out⟩
    · exact ⟨putB_length _, q2.2.1, q2.2.2.2.1, q2.2.2.2.2⟩
    · exact ⟨rfl, Nat.le_refl _, (fun e => by cases e), HL.out.all ((Below.refl _ _).alloc (Nat.le_refl _) _)⟩
  clear hlit hb3
  refine (concat_any _ _ 4 _ _ rfl (by omega) (by exact HM4.out) (by exact HOk.out _) N (by rw [← eN.out]; simp [total]; omega) (by have := eN.out; omega) (by have := eN.out; omega)).mono ?_
  rintro e w5 ⟨a5, c5, rfl, ho5, hb5⟩
  have S5 := (S3.alloc _).grow hb5
  have HO5 := hid ho5
  have hs5 := (S3.alloc (.cells #[.slice a1 (codeNum n).length c1, .slice a n cap, .slice a2 4 c2, .slice (some ⟨w2.heap.size, 0, none⟩) 1 1] 32)).size
  clear ho5 hb5
  go_wp2
  go_ret
  refine ⟨_, _, rfl, ?_, S5.fin⟩
  rw [ef.out]
  have := HO5.out.base hs5
  simpa using this

end Go.Proofs.Ytkkailggpfmgaaa
