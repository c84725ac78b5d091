/- The statements of layer 11: alive. -/
import Derived.Test.YtiilhfmmclhflaaStore5
import Derived.Test.YtiilhfmmclhflaaLogs
import Derived.Test.YtiilhfmmclhflaaOpens
namespace Go.Proofs.Ytiilhfmmclhflaa
set_option linter.unusedVariables false
set_option linter.unusedSimpArgs false
open Go.RowKit
def sa1 : SS := (sStage (SS.new 5) 0 1 2 [97, 98, 99]).2
def sa2 : SS := (sCommit sa1 1 2).2
theorem sb_1 : sStage (SS.new 5) 0 1 2 [97, 98, 99] = (0, sa1) := by kernel_rfl
theorem sb_2 : sCommit sa1 1 2 = (0, sa2) := by kernel_rfl
theorem sb_3 : sGet sa2 1 2 = some [97, 98, 99] := by kernel_rfl
theorem sb_4 : sStage sa2 0 1 3 [120, 121, 122] = (3, sa2) := by kernel_rfl
theorem sb_5 : sStage sa2 0 1 2 [120] = (6, sa2) := by kernel_rfl
theorem sb_6 : usedP sa2.js = 3 ∧ sCounts sa2 1 = 2 ∧ sa2.writes = 1 ∧ sa2.term = 0 ∧ (SS.new 5).writes = 0 := ⟨by kernel_rfl, by kernel_rfl, by kernel_rfl, by kernel_rfl, by kernel_rfl⟩
set_option maxRecDepth 100000 in
set_option maxHeartbeats 1600000 in
theorem alive11_any (w : World) : Calls Try.prog 13 #[] w fun e w' => e = .returned (.bool true) ∧ Below w.heap.size w w' := by
  have k1 := fun (w : World) => Lib.run_convert_bytes_const (P := Try.prog) w 22 5 #[.int .u8 97, .int .u8 98, .int .u8 99] 3 3 sliceB u8T
  have k2 := fun (w : World) => Lib.run_convert_bytes_const (P := Try.prog) w 22 5 #[.int .u8 120, .int .u8 121, .int .u8 122] 3 3 sliceB u8T
  have k3 := fun (w : World) => Lib.run_convert_bytes_const (P := Try.prog) w 22 5 #[.int .u8 120] 1 1 sliceB u8T
  have S0 := St.start w
  have E1 := hid sb_1
  have E2 := hid sb_2
  have E3 := hid sb_3
  have E4 := hid sb_4
  have E5 := hid sb_5
  have E6 := hid sb_6
  go_enter Try.func13, Try.ntmps13
  go_wp2_with fail
  refine (stNew_any S0 5).mono ?_
  rintro e w1 ⟨rfl, S1⟩
  have S1' : St w w1 [storeT w.heap.size (SS.new 5)] := S1
  clear S1
  go_wp2_with fail
  have L1 := S1'.alloc (.cells #[.int .u8 97, .int .u8 98, .int .u8 99] 5 (3, 4))
  refine (stStage_any L1 0 rfl (by rw [E6.out.2.2.2.2]; omega) 0 1 2 _ [97, 98, 99] 3 3 rfl (by omega) (fun e => by cases e) (At.mark rfl _)).mono ?_
  rintro e w2 ⟨rfl, S2⟩
  rw [E1.out] at S2 ⊢
  have S2' : St w w2 [storeT w.heap.size sa1] := S2
  clear S2 L1 S1'
  go_wp2_with fail
  refine (stCommit_any S2' 0 rfl 1 2).mono ?_
  rintro e w3 ⟨rfl, S3⟩
  rw [E2.out] at S3 ⊢
  have S3' : St w w3 [storeT w.heap.size sa2] := S3
  clear S3 S2'
  go_wp2_with fail
  refine (stGet_any S3' 0 rfl 1 2).mono ?_
  rintro e w4 ⟨a4, c4, rfl, ho4, hb4⟩
  rw [E3.out] at ho4 ⊢
  have S4 : St w w4 [storeT w.heap.size sa2, bytesT (.slice a4 3 c4) [97, 98, 99]] := S3'.bytes ho4 hb4
  have sr := str_run w4 a4 [97, 98, 99] 3 c4 rfl (S4.at 1 rfl)
  clear ho4 hb4 S3'
  go_wp2_with fail
  have L5 := S4.alloc (.cells #[.int .u8 120, .int .u8 121, .int .u8 122] 5 (3, 4))
  refine (stStage_any L5 0 rfl (by rw [E6.out.2.2.1]; omega) 0 1 3 _ [120, 121, 122] 3 3 rfl (by omega) (fun e => by cases e) (At.mark rfl _)).mono ?_
  rintro e w5 ⟨rfl, S5⟩
  rw [E4.out] at S5 ⊢
  have S5' : St w w5 [storeT w.heap.size sa2] := S5.take 1
  clear S5 L5 S4 sr
  go_wp2_with fail
  have L6 := S5'.alloc (.cells #[.int .u8 120] 5 (1, 2))
  refine (stStage_any L6 0 rfl (by rw [E6.out.2.2.1]; omega) 0 1 2 _ [120] 1 1 rfl (by omega) (fun e => by cases e) (At.mark rfl _)).mono ?_
  rintro e w6 ⟨rfl, S6⟩
  rw [E5.out] at S6 ⊢
  have S6' : St w w6 [storeT w.heap.size sa2] := S6.take 1
  clear S6 L6 S5'
  go_wp2_with fail
  refine (stUsed_any S6' 0 rfl).mono ?_
  rintro e w7 ⟨rfl, hb7⟩
  rw [E6.out.1]
  have S7 := S6'.grow hb7
  clear hb7 S6'
  go_wp2_with fail
  refine (stCounts_any S7 0 rfl 1).mono ?_
  rintro e w8 ⟨rfl, rfl⟩
  rw [E6.out.2.1]
  go_wp2_with fail
  refine (stWrites_any S7 0 rfl).mono ?_
  rintro e w8 ⟨rfl, rfl⟩
  rw [E6.out.2.2.1]
  go_wp2_with fail
  refine (stTerm_any S7 0 rfl).mono ?_
  rintro e w8 ⟨rfl, rfl⟩
  rw [E6.out.2.2.2.1]
  go_wp2
  go_ret
  exact ⟨rfl, S7.fin⟩

end Go.Proofs.Ytiilhfmmclhflaa
