/- The statements of layer 6: alive. -/
import Derived.Test.YtkkailggpfmgaaaSlots3
namespace Go.Proofs.Ytkkailggpfmgaaa
set_option linter.unusedVariables false
set_option linter.unusedSimpArgs false
open Go.RowKit

theorem St.roAt {w0 w : World} {l : List Thing} (S : St w0 w l) (k : Nat) {a : Option Addr} {b : List UInt8} (h : l[k]? = some (roT a b)) : At w a b := by
  obtain ⟨F, h1, _⟩ := S.head k h
  exact h1
def sa1 : DSt := (slSave (DSt.new 60) 2 20 [97] 1).2
def sa2 : DSt := (slStart sa1 2 20 [98] 2).2
def sa3 : DSt := sa2.crash 3
theorem sa_1 : (slSave (DSt.new 60) 2 20 [97] 1).1 = 0 := by kernel_rfl
theorem sa_2 : (slStart sa1 2 20 [98] 2).1 = 0 := by kernel_rfl
theorem sa_3 : sa3.shows 2 20 = some ([97], 1) := by kernel_rfl
theorem sa_4 : (slSave sa3 2 20 [] 1).1 = 6 := by kernel_rfl
theorem sa_5 : sa1.lasts.length = 60 ∧ sa1.waits.length = 0 ∧ sa1.syncs = 2 ∧ sa2.lasts.length = 60 ∧ sa2.waits.length = 1 ∧ sa2.syncs = 3 ∧ sa3.lasts.length = 60 ∧ sa3.waits.length = 0 ∧ sa3.syncs = 3 := by
  refine ⟨by kernel_rfl, by kernel_rfl, by kernel_rfl, by kernel_rfl, by kernel_rfl, by kernel_rfl, by kernel_rfl, by kernel_rfl, by kernel_rfl⟩

set_option maxRecDepth 100000 in
set_option maxHeartbeats 1600000 in
theorem alive6_any (w : World) : Calls Try.prog 22 #[] w fun e w' => e = .returned (.bool true) ∧ Below w.heap.size w w' := by
  have k1 := fun (w : World) => Lib.run_convert_bytes_const (P := Try.prog) w 32 5 #[.int .u8 97] 1 1 sliceB u8T
  have k2 := fun (w : World) => Lib.run_convert_bytes_const (P := Try.prog) w 32 5 #[.int .u8 98] 1 1 sliceB u8T
  have S0 := St.start w
  have E1 := hid sa_1
  have E2 := hid sa_2
  have E3 := hid sa_3
  have E4 := hid sa_4
  have E5 := hid sa_5
  go_enter Try.func22, Try.ntmps22
  go_wp2_with fail
  refine (hnew S0 60 (by omega) (by omega)).mono ?_
  rintro e w1 ⟨pd, rfl, S1, -⟩
  go_wp2_with fail
  refine (slOpen_yes (by exact S1) 2 20 (by omega) (by simp [DSt.new])).mono ?_
  rintro e w2 ⟨g, rfl, S2⟩
  go_wp2_with fail
  have S3 := ((S2.lit [97] #[.int .u8 97] rfl (1, 2)).front 2 rfl).front 2 rfl
  refine (slSave_any (by exact S3) (by simp [DSt.new]) (by simp [DSt.new]) (by simp [DSt.new]) _ [97] 1 1 rfl (by decide) (by omega) (fun e => by cases e) (Reads.ro 0 rfl) 1).mono ?_
  rintro e w3 ⟨rfl, S4⟩
  rw [E1.out]
  have S4' : St w w3 [cellsT g 90 (slotC pd 2 20), diskT pd sa1] := S4.take 2
  clear S3 S4
  go_wp2_with fail
  have S5 := ((S4'.lit [98] #[.int .u8 98] rfl (1, 2)).front 2 rfl).front 2 rfl
  refine (slStart_any (by exact S5) (by rw [E5.out.1]; omega) (by rw [E5.out.2.1]; omega) (by rw [E5.out.2.2.1]; omega) _ [98] 1 1 rfl (by decide) (by omega) (fun e => by cases e) (Reads.ro 0 rfl) 2).mono ?_
  rintro e w4 ⟨rfl, S6⟩
  rw [E2.out]
  have S6' : St w w4 [cellsT g 90 (slotC pd 2 20), diskT pd sa2] := S6.take 2
  clear S5 S6
  go_wp2_with fail
  refine (hcrash S6' 1 rfl 3 (by omega) (by omega) (by rw [E5.out.2.2.2.2.1]; omega)).mono ?_
  rintro e w5 ⟨rfl, S7⟩
  have S7' : St w w5 [cellsT g 90 (slotC pd 2 20), diskT pd sa3] := S7
  clear S7
  have HL := hid (slLoad_any S7' (by rw [E5.out.2.2.2.2.2.2.1]; omega) (by rw [E5.out.2.2.2.2.2.2.2.1]; omega))
  rw [E3.out] at HL
  go_wp2_with fail
  refine HL.out.mono ?_
  rintro e w6 ⟨a6, c6, rfl, q1, q2, q3, S8⟩
  obtain ⟨F8, hA8, -⟩ := S8.head 0 rfl
  have sr := str_run w6 a6 [97] 1 c6 rfl hA8
  have S9 : St w w6 [cellsT g 90 (slotC pd 2 20), diskT pd sa3] := S8.tail
  simp only [picL, picA, Option.isSome_some, List.length_singleton]
  clear q1 q2 q3 S8 HL hA8
  go_wp2_with fail
  refine (slSave_any S9 (by rw [E5.out.2.2.2.2.2.2.1]; omega) (by rw [E5.out.2.2.2.2.2.2.2.1]; omega) (by rw [E5.out.2.2.2.2.2.2.2.2]; omega) none [] 0 0 rfl (by omega) (by omega) (fun _ => rfl) (Reads.old (At.nil _ _)) 1).mono ?_
  rintro e w7 ⟨rfl, S10⟩
  rw [E4.out]
  go_wp2
  go_ret
  exact ⟨rfl, S10.fin⟩

end Go.Proofs.Ytkkailggpfmgaaa
