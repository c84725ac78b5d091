/- The statements of layer 2, walked. -/
import Derived.Test.YtbkbogdengeghaaSumRef
namespace Go.Proofs.Ytbkbogdengeghaa
set_option linter.unusedVariables false
set_option linter.unusedSimpArgs false
open Go.RowKit

def digits : List UInt8 := [49, 50, 51, 52, 53, 54, 55, 56, 57]
theorem dig_1 : sumOf digits = 3421780262 := by kernel_rfl
theorem dig_2 : sumOf [] = 0 := by kernel_rfl
theorem dig_3 : sumMore (sumOf (digits.take 4)) (digits.drop 4) = 3421780262 := by kernel_rfl
theorem dig_4 : isB (digits ++ putB 3421780262) = true := by kernel_rfl
theorem dig_5 : isB [] = false := by kernel_rfl

set_option maxHeartbeats 1000000 in
set_option maxRecDepth 100000 in
theorem alive_any (w : World) : Calls Try.prog 13 #[] w fun e w' => e = .returned (.bool true) ∧ Below w.heap.size w w' := by
  have c0 := Lib.run_convert_bytes_const (P := Try.prog) w 22 5 #[.int .u8 49, .int .u8 50, .int .u8 51, .int .u8 52, .int .u8 53, .int .u8 54, .int .u8 55, .int .u8 56, .int .u8 57] 9 9 sliceB u8T
  have c1 := cut_hI (some ⟨w.heap.size, 0, none⟩) 9 9 4 4 rfl (by omega)
  have c2 := cut_lI (some ⟨w.heap.size, 0, none⟩) 9 9 4 4 rfl (by omega) (by omega)
  have hat : At (w.alloc (.cells #[.int .u8 49, .int .u8 50, .int .u8 51, .int .u8 52, .int .u8 53, .int .u8 54, .int .u8 55, .int .u8 56, .int .u8 57] 5 (9, 10))) (some ⟨w.heap.size, 0, none⟩) digits := At.mark rfl _
  have hbel := (Below.refl w.heap.size w).alloc (Nat.le_refl _) (.cells #[.int .u8 49, .int .u8 50, .int .u8 51, .int .u8 52, .int .u8 53, .int .u8 54, .int .u8 55, .int .u8 56, .int .u8 57] 5 (9, 10))
  have HF := hid (And.intro hat hbel)
  clear hat hbel
  go_enter Try.func13, Try.ntmps13
  go_wp2
  generalize w.alloc _ = w0 at HF ⊢
  generalize (some (⟨w.heap.size, 0, none⟩ : Addr)) = h0 at HF c1 c2 ⊢
  clear c0
  have e1 : ((sumOf digits : Nat) : Int) = 3421780262 := by rw [dig_1]; rfl
  have e2 : ((sumOf [] : Nat) : Int) = 0 := by rw [dig_2]; rfl
  have e3 : sumMore ((sumOf (digits.take 4) : Nat) : Int) (digits.drop 4) = 3421780262 := dig_3
  have e4 := dig_4
  have e5 := dig_5
  have T4 : Hid (At w0 (cutH h0 0 9) (digits.take 4)) := HF.out.1.h 4 9 (by omega)
  have D4 : Hid (At w0 (cutH h0 4 9) (digits.drop 4)) := HF.out.1.l 4 9 (by decide)
  have HN0 : Hid (h0 = none → 9 = 0 ∧ 9 = 0) := by
    intro e; have := (HF.out.1 0 (by decide)).1; rw [e] at this; simp at this
  go_region_held3 (fun _ => True) (trivial) (first
    | (go_at_call_of 14 (Value.slice none 0 0); refine (of_any none [] 0 0 _ rfl (by decide) (At.nil _ _)).mono ?_; rintro e w' ⟨rfl, rfl⟩)
    | (go_at_call_of 14 (Value.slice (cutH h0 0 9) 4 9); refine (of_any (cutH h0 0 9) (digits.take 4) 4 9 _ rfl (by decide) (by exact T4.out)).mono ?_; rintro e w' ⟨rfl, rfl⟩)
    | (go_at_call_of 14 (Value.slice h0 9 9); refine (of_any h0 digits 9 9 _ rfl (by decide) (by exact HF.out.1)).mono ?_; rintro e w' ⟨rfl, rfl⟩)
    | (go_at_call 16; refine (more_any _ (cutH h0 4 9) (digits.drop 4) 5 5 _ rfl (by decide) (by exact D4.out)).mono ?_; rintro e w' ⟨rfl, rfl⟩)
    | (go_at_call 18; refine (put_any _ _).mono ?_; rintro e w1 ⟨v, rfl, hown, hbel⟩; have HW := hid (And.intro hown.sl (undrew hbel)); clear hbel hown; obtain ⟨ap, cp, rfl, hs1⟩ := HW.out.1; have HP := hid hs1; clear hs1)
    | (refine step_app (by rfl) (.tmp 23) (.tmp 24) 22 22 22 rfl rfl _ _ rfl rfl (run_grow _ h0 digits 9 9 rfl (by exact HF.out.1.all HW.out.2) ap (putB 3421780262) 4 cp rfl (by exact HP.out.2.2) HN0.out (by omega) (by omega) (by omega)) ?_; rintro v2 w2 ⟨hown2, hbel2⟩; have HX := hid (And.intro hown2.sl (HW.out.2.trans (hbel2.mono HW.out.2.size))); clear hown2 hbel2; obtain ⟨a2, c2', rfl, hs2⟩ := HX.out.1; have HQ := hid hs2; clear hs2)
    | (go_at_call_of 21 (Value.slice none 0 0); refine (is_any none [] 0 0 _ rfl (by decide) (by omega) (At.nil _ _)).mono ?_; rintro e w3 ⟨rfl, hb3⟩; have HB3 := hid hb3; clear hb3)
    | (go_at_call 21; refine (is_any a2 (digits ++ putB 3421780262) _ c2' _ rfl (by decide) HQ.out.1 (by exact HQ.out.2.2)).mono ?_; rintro e w4 ⟨rfl, hb4⟩; have HB4 := hid hb4; clear hb4))
  go_wp2
  go_ret
  exact ⟨rfl, bst (bst (bst HF.out.2 HX.out.2) HB4.out) HB3.out⟩

set_option maxHeartbeats 1000000 in
theorem sumOf_law (a : Option Addr) (l : List UInt8) (n cap : Nat) (s : Int) (w : World) (hn : l.length = n) (hl : n ≤ maxLen) (hA : At w a l) :
    Calls Try.prog 3 #[.slice a n cap, .int .i64 s] w fun e w' => e = .returned (.bool true) ∧ Below w.heap.size w w' := by
  have H := hid hA
  clear hA
  go_enter Try.func3, Try.ntmps3
  go_wp2_with fail
  refine (alive_any _).mono ?_
  rintro e w1 ⟨rfl, hb⟩
  have HB := hid hb
  clear hb
  by_cases h3 : 300 < n
  · go_wp2
    go_ret
    exact ⟨rfl, HB.out⟩
  · go_wp2_with (first
      | (go_at_call 14; refine (of_any _ _ _ _ _ hn hl (by exact H.out.all HB.out)).mono ?_; rintro e w' ⟨rfl, rfl⟩)
      | (go_at_call 15; refine (rof_any _ _ _ _ _ hn hl (by exact H.out.all HB.out)).mono ?_; rintro e w' ⟨rfl, rfl⟩)
      | (go_at_call 16; refine (more_any _ _ _ _ _ _ hn hl (by exact H.out.all HB.out)).mono ?_; rintro e w' ⟨rfl, rfl⟩)
      | (go_at_call 17; refine (rmore_any _ _ _ _ _ _ hn hl (by exact H.out.all HB.out)).mono ?_; rintro e w' ⟨rfl, rfl⟩))
    go_ret
    exact ⟨by simp, HB.out⟩

end Go.Proofs.Ytbkbogdengeghaa
