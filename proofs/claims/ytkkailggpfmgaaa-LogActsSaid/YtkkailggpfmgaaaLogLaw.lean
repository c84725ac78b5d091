/- The statements of layer 5: alive. -/
import Derived.Test.YtkkailggpfmgaaaLogs
namespace Go.Proofs.Ytkkailggpfmgaaa
set_option linter.unusedVariables false
set_option linter.unusedSimpArgs false
open Go.RowKit

def la1 : DSt := (DSt.new 40).nought 4 30 0
def la2 : DSt := (logApp la1 4 30 0 [97]).2.1
def la3 : DSt := (logPut la2 4 30 7 [98]).2.1
theorem la_1 : fAll (piece (DSt.new 40).bytes 4 30) 0 = ([], 0) := by kernel_rfl
theorem la_2 : (logApp la1 4 30 0 [97]).1 = 0 ∧ (logApp la1 4 30 0 [97]).2.2 = 7 := ⟨by kernel_rfl, by kernel_rfl⟩
theorem la_3 : (logPut la2 4 30 7 [98]).1 = 0 ∧ (logPut la2 4 30 7 [98]).2.2 = 14 := ⟨by kernel_rfl, by kernel_rfl⟩
theorem la_4 : fAll (piece (la3.crash 6).bytes 4 30) 0 = ([[97]], 7) := by kernel_rfl
theorem la_5 : la1.lasts.length = 40 ∧ la1.waits.length = 0 ∧ la1.syncs = 1 ∧ la2.lasts.length = 40 ∧ la2.waits.length = 0 ∧ la2.syncs = 2 ∧ la3.lasts.length = 40 ∧ la3.waits.length = 1 ∧ la3.syncs = 2 ∧ (la3.crash 6).lasts.length = 40 ∧ (la3.crash 6).waits.length = 0 ∧ (la3.crash 6).syncs = 2 := by
  refine ⟨by kernel_rfl, by kernel_rfl, by kernel_rfl, by kernel_rfl, by kernel_rfl, by kernel_rfl, by kernel_rfl, by kernel_rfl, by kernel_rfl, by kernel_rfl, by kernel_rfl, by kernel_rfl⟩
theorem la_6 : roomB 30 14 5 = true ∧ roomB 30 14 60 = false := ⟨by kernel_rfl, by kernel_rfl⟩

set_option maxRecDepth 100000 in
set_option maxHeartbeats 1600000 in
theorem alive5_any (w : World) : Calls Try.prog 12 #[] w fun e w' => e = .returned (.bool true) ∧ Below w.heap.size w w' := by
  have k1 := fun (w : World) => Lib.run_convert_bytes_const (P := Try.prog) w 32 5 #[.int .u8 97] 1 1 sliceB u8T
  have k2 := fun (w : World) => Lib.run_convert_bytes_const (P := Try.prog) w 32 5 #[.int .u8 98] 1 1 sliceB u8T
  have S0 := St.start w
  have E1 := hid la_1
  have E2 := hid la_2
  have E3 := hid la_3
  have E4 := hid la_4
  have E5 := hid la_5
  have E6 := hid la_6
  go_enter Try.func12, Try.ntmps12
  go_wp2_with fail
  refine (hnew S0 40 (by omega) (by omega)).mono ?_
  rintro e w1 ⟨pd, rfl, S1, -⟩
  go_wp2_with fail
  refine (logOpen_yes (by exact S1) 4 30 (by omega) (by simp [DSt.new]) (by simp [DSt.new]) (by simp [DSt.new])).mono ?_
  rintro e w2 ⟨g, a2, c2, xs, rfl, hxs, hhd, S2⟩
  rw [E1.out] at S2 ⊢
  have S2' : St w w2 [cellsT g 81 (logC pd 4 30 0), diskT pd la1, rowsT eS bsRefs (.slice a2 0 c2) xs] := S2
  clear S2 hxs hhd
  go_wp2_with fail
  have S3 := ((S2'.lit [97] #[.int .u8 97] rfl (1, 2)).front 2 rfl).front 2 rfl
  refine (logApp_any (by exact S3) _ [97] 1 1 rfl (by decide) (by omega) (fun e => by cases e) (Reads.ro 0 rfl) (by rw [E5.out.1]; omega) (by omega) (by rw [E5.out.2.1]; omega) (by rw [E5.out.2.2.1]; omega)).mono ?_
  rintro e w3 ⟨rfl, S4⟩
  rw [E2.out.1]
  rw [E2.out.2] at S4
  have S4' : St w w3 [cellsT g 81 (logC pd 4 30 7), diskT pd la2] := S4.take 2
  clear S3 S4
  go_wp2_with fail
  have S5 := ((S4'.lit [98] #[.int .u8 98] rfl (1, 2)).front 2 rfl).front 2 rfl
  refine (logPut_any (by exact S5) _ [98] 1 1 rfl (by decide) (by omega) (fun e => by cases e) (Reads.ro 0 rfl) (by rw [E5.out.2.2.2.1]; omega) (by omega) (by rw [E5.out.2.2.2.2.1]; omega)).mono ?_
  rintro e w4 ⟨rfl, S6⟩
  rw [E3.out.1]
  rw [E3.out.2] at S6
  have S6' : St w w4 [cellsT g 81 (logC pd 4 30 14), diskT pd la3] := S6.take 2
  clear S5 S6
  go_wp2_with fail
  refine (logUsed_any S6').mono ?_
  rintro e w5 ⟨rfl, rfl⟩
  go_wp2_with fail
  refine (hcrash S6' 1 rfl 6 (by omega) (by omega) (by rw [E5.out.2.2.2.2.2.2.2.1]; omega)).mono ?_
  rintro e w5 ⟨rfl, S7⟩
  have S7' : St w w5 [diskT pd (la3.crash 6), cellsT g 81 (logC pd 4 30 14)] := S7.front 1 rfl
  clear S7
  go_wp2_with fail
  refine (logOpen_yes (by exact S7') 4 30 (by omega) (by rw [E5.out.2.2.2.2.2.2.2.2.2.1]; omega) (by rw [E5.out.2.2.2.2.2.2.2.2.2.2.1]; omega) (by rw [E5.out.2.2.2.2.2.2.2.2.2.2.2]; omega)).mono ?_
  rintro e w6 ⟨g2, a6, c6, ys, rfl, hys, hhd, S8⟩
  rw [E4.out] at S8 hys ⊢
  have A8 := S8.rowsAt eSok 2 rfl
  have S9 := S8.front 3 rfl
  clear S8
  obtain ⟨y, rfl⟩ : ∃ y, ys = [y] := by
    have := congrArg List.length hys
    simp at this
    exact List.length_eq_one_iff.1 this
  have hyl : y.l = [97] := by simpa using hys
  have hyh := hhd y (by simp)
  have hya : At w6 y.a y.l := A8.2.2.2.2.2 y (by simp) _ (List.mem_singleton.2 rfl)
  have i0 := fun wx => idxS a6 1 c6 (fun h => A8.2.2.2.2.1.ok (by simp)) 0 0 rfl (by omega) wx
  have x0 := A8.2.2.2.2.1.cellS (k := 0) (by simp)
  have sr := str_run w6 y.a y.l y.n y.c hyh.len hya
  rw [hyl] at sr
  simp only [List.getElem_cons_zero] at x0
  clear A8 hhd hys hyl hyh hya
  generalize adr a6 0 = A at *
  obtain ⟨ya, yn, yc, yl⟩ := y
  simp only [] at x0 sr
  go_wp2_with fail
  refine (room_any S9 5 (by omega) (by omega)).mono ?_
  rintro e w7 ⟨rfl, S10, -⟩
  rw [E6.out.1]
  go_wp2_with fail
  refine (room_any S10 60 (by omega) (by omega)).mono ?_
  rintro e w8 ⟨rfl, S11, -⟩
  rw [E6.out.2]
  go_wp2
  go_ret
  exact ⟨rfl, S11.fin⟩

end Go.Proofs.Ytkkailggpfmgaaa
