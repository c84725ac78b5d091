/- Wish: the example; WishAlike, WishSame. -/
import Derived.Test.YtilobmefomoemaaDoorWish3
namespace Go.Proofs.YtilobmefomoemaaDoor
set_option linter.unusedVariables false
set_option linter.unusedSimpArgs false
open Go.RowKit
theorem St.atOne {α : Type} {e : Elt α} (he : e.Ok) {w0 w : World} {l : List Thing} (S : St w0 w l) (k : Nat) {g : Nat} {T : TypeId} {x : α} (h : l[k]? = some (cellsT g T (e.enc x))) : AtG e w (some ⟨g, 0, none⟩) [x] := by
  intro i hi
  obtain rfl : i = 0 := by simp at hi; omega
  refine ⟨rfl, fun j hj => ?_⟩
  have hl : j < (e.enc x).length := by rw [he.len]; exact hj
  rw [show adr (some ⟨g, 0, none⟩) (0 * e.s + j) = ⟨g, j, none⟩ by simp [adr, Addr.add_lit]]
  rw [S.cell k h j (List.getElem?_eq_getElem hl)]
  exact (List.getElem?_eq_getElem hl).symm
def nW : ND := ⟨true, false, false, 1, 1⟩
def jW (ep : Int) : JB := ⟨0, 0, 1, 1, 1, 0, 1, 1, 1, 0, 0, ep⟩
def sW (g h : Nat) (ep : Int) : STA := ⟨some ⟨g, 0, none⟩, 1, 1, [nW], some ⟨h, 0, none⟩, 1, 1, [jW ep], 1, 1, 0, 0⟩
def mW : Msg := ⟨0, 2, 0, 0, 1, 1, 1, 0, 0, 0, 0⟩
def dW : List UInt8 := [1, 5]
def tW : SS := (sStage (SS.new 9) 0 1 1 dW).2
theorem sW_order (g h : Nat) (ep : Int) : wOrder (sW g h ep) 0 none = some mW := rfl
theorem sW_all (g h : Nat) (ep : Int) : wAllL (sW g h ep) none 1 = [mW] := rfl
theorem sW_data : codeText (codeNum 5) = dW := by decide
theorem sW_stage : (sStage (SS.new 9) 0 1 1 dW).1 = 0 := by decide
theorem sW_had (g h : Nat) : wHad (sW g h 1) 1 (some tW) = 5 := by
  have : wHadD ((sGet tW 1 1).getD []) = 5 := by decide
  exact this
theorem sW_ok (g h : Nat) (ep : Int) : OrdOk (sW g h ep) where
  job := fun k hk => by
    obtain rfl : k = 0 := by simp [sW] at hk; omega
    exact ⟨show (0 : Int) ≤ 1 by decide, show (1 : Int) ≤ 1 by decide⟩
  mv := fun k hk => by
    obtain rfl : k = 0 := by simp [sW] at hk; omega
    intro h; cases h
  put := fun k hk => by
    obtain rfl : k = 0 := by simp [sW] at hk; omega
    intro h; simp [sW, jW] at h
theorem sW_a1 : wAlike mW mW = true := by decide
theorem sW_a2 : wAlike mW Msg.zero = false := by decide
theorem sW_nums : (codeNum 5) = [5] := by decide
set_option maxRecDepth 100000 in
set_option maxHeartbeats 6400000 in
theorem alive19_any (w : World) (hT : TabOk w) : Calls Tryd.prog 9 #[] w fun e w' => e = .returned (.bool true) ∧ Below w.heap.size w w' := by
  have S1 : St w _ [cellsT w.heap.size 38 nW.cs, cellsT (w.heap.size + 1) 40 (jW 0).cs, cellsT (w.heap.size + 1 + 1) 33 (sW w.heap.size (w.heap.size + 1) 0).cs, soT (.pointer none) none] := ((((St.start w).newAt 38 #[.bool true, .bool false, .bool false, .int .i64 1, .int .i64 1] w.heap.size rfl).newAt 40 #[.int .i64 0, .int .i64 0, .int .i64 1, .int .i64 1, .int .i64 1, .int .i64 0, .int .i64 1, .int .i64 1, .int .i64 1, .int .i64 0, .int .i64 0, .int .i64 0] (w.heap.size + 1) (alloc_size _ _)).newAt 33 #[.slice (some ⟨w.heap.size, 0, none⟩) 1 1, .slice (some ⟨w.heap.size + 1, 0, none⟩) 1 1, .int .i64 1, .int .i64 1, .int .i64 0, .int .i64 0] (w.heap.size + 1 + 1) (by simp only [alloc_size])).soNew
  have HT := hid hT
  have q1 : ∀ wx, (binOp .eql 23 (.agg #[.int .i64 0, .int .i64 2, .int .i64 0, .int .i64 0, .int .i64 1, .int .i64 1, .int .i64 1, .int .i64 0, .int .i64 0, .int .i64 0, .int .i64 0]) (.agg #[.int .i64 0, .int .i64 2, .int .i64 0, .int .i64 0, .int .i64 1, .int .i64 1, .int .i64 1, .int .i64 0, .int .i64 0, .int .i64 0, .int .i64 0])).run Tryd.prog wx = .ok (.bool true) wx := fun wx => by
    have := eqM mW mW wx
    rw [Msg.eq_self] at this
    exact this
  have ED := hid sW_data
  have EN := hid sW_nums
  have ES := hid sW_stage
  have A1 := hid sW_a1
  have A2 := hid sW_a2
  clear hT
  go_enter Tryd.func9, Tryd.ntmps9
  go_wp2_with fail
  generalize w.heap.size + 1 + 1 = gs at *
  generalize w.heap.size + 1 = gj at *
  generalize w.heap.size = gn at *
  generalize (((w.alloc _).alloc _).alloc _) = w1 at *
  have EO := fun ep => hid (sW_order gn gj ep)
  have EA := fun ep => hid (sW_all gn gj ep)
  have EH := hid (sW_had gn gj)
  have EK := fun ep => hid (sW_ok gn gj ep)
  have At1 : ∀ {w' : World} {l : List Thing} (ep : Int), St w w' (cellsT gn 38 nW.cs :: cellsT gj 40 (jW ep).cs :: l) → (sW gn gj ep).At w' := fun ep S => ⟨S.atOne eNDok 0 rfl, S.atOne eJBok 1 rfl, rfl, rfl, show 1 ≤ maxLen by decide, show 1 ≤ maxLen by decide⟩
  refine (wOrder_any S1 (k := 3) rfl (sW gn gj 0) (At1 0 S1) (HT.out.all S1.fin) (EK 0).out 0).mono ?_
  rintro e w2 ⟨rfl, hb2⟩
  rw [(EO 0).out, show orderV (some mW) = .tuple #[.agg #[.int .i64 0, .int .i64 2, .int .i64 0, .int .i64 0, .int .i64 1, .int .i64 1, .int .i64 1, .int .i64 0, .int .i64 0, .int .i64 0, .int .i64 0], .bool true] from rfl]
  have S2 := S1.grow hb2
  clear S1 hb2
  go_wp2_with fail
  have S3 : St w _ [cellsT gn 38 nW.cs, cellsT gj 40 (jW 0).cs, cellsT gs 33 (sW gn gj 0).cs, soT (.pointer none) none, cellsT w2.heap.size 23 mW.cs] := S2.newAt 23 #[.int .i64 0, .int .i64 2, .int .i64 0, .int .i64 0, .int .i64 1, .int .i64 1, .int .i64 1, .int .i64 0, .int .i64 0, .int .i64 0, .int .i64 0] w2.heap.size rfl
  generalize w2.alloc _ = w3 at *
  generalize w2.heap.size = gm at *
  refine (stNew_any S3 9).mono ?_
  rintro e w4 ⟨rfl, S4⟩
  generalize w3.heap.size = gt at *
  clear S3 S2
  go_wp2_with fail
  refine (num_any 5 _).mono ?_
  rintro e w5 ⟨v5, rfl, ho5, hb5⟩
  rw [EN.out] at ho5
  obtain ⟨a5, c5, rfl⟩ := ho5.written (n := 1) rfl
  have S5 := S4.bytes ho5 hb5
  have hcv := str_run w5 a5 [5] 1 c5 rfl (S5.at 6 rfl)
  clear ho5 hb5 S4
  go_wp2_with fail
  refine (text_any ⟨#[5]⟩ (by decide) _).mono ?_
  rintro e w6 ⟨v6, rfl, ho6, hb6⟩
  have ho6' : Own w6 w5.heap.size v6 dW := by
    have e : codeText ((⟨#[5]⟩ : ByteArray).data.toList) = dW := by rw [← ED.out, EN.out]
    rw [← e]; exact ho6
  obtain ⟨a6, c6, rfl⟩ := ho6'.written (n := 2) rfl
  have S6 := S5.bytes ho6' hb6
  clear ho6 ho6' hb6 S5 hcv
  go_wp2_with fail
  refine (stStage_any S6 5 rfl (by decide) 0 1 1 a6 dW 2 c6 rfl (by omega) (S6.slA 7 rfl).2.2.2.1 (by exact S6.at 7 rfl)).mono ?_
  rintro e w7 ⟨rfl, S7⟩
  rw [ES.out]
  have S8 : St w w7 [cellsT gn 38 nW.cs, cellsT gj 40 (jW 0).cs, cellsT gs 33 (sW gn gj 0).cs, soT (.pointer none) none, cellsT gm 23 mW.cs, storeT gt tW] := S7.take 6
  clear S7 S6
  have i0 : ∀ wx, (Instr.indexAt 31 (.slice (some ⟨gj, 0, none⟩) 1 1) (.int .i64 0)).run Tryd.prog wx = .ok (.pointer (some ⟨gj, 0, none⟩)) wx := fun wx => by
    have := idxJB (some ⟨gj, 0, none⟩) 1 1 (fun _ => rfl) 0 0 rfl (by decide) wx
    simpa [adr, Addr.add_lit] using this
  obtain ⟨x0, x1, x2, x3, x4, x5⟩ := S8.stC (s := sW gn gj 0) 2 rfl
  have f11 := S8.frozen 1 rfl 11
  have y11 := S8.cell 1 rfl 11 rfl
  have S9 : St w _ [cellsT gn 38 nW.cs, cellsT gj 40 (jW 1).cs, cellsT gs 33 (sW gn gj 1).cs, soT (.pointer none) none, cellsT gm 23 mW.cs, soT (.pointer (some ⟨gt, 0, none⟩)) (some tW)] := (S8.setCell 1 rfl 11 (.int .i64 1)).soMk 5 rfl
  generalize hw9 : w7.setCell ⟨gj, 11, none⟩ (.int .i64 1) = w9 at *
  have x1' : w7.cell? ⟨gs, 1, none⟩ = some (.slice (some ⟨gj, 0, none⟩) 1 1) := x1
  clear x0 x1 x2 x3 x4 x5
  have ay0 : w9.cell? ⟨gm, 0, none⟩ = some (.int .i64 0) := S9.cell 4 rfl 0 rfl
  have ay1 : w9.cell? ⟨gm, 1, none⟩ = some (.int .i64 2) := S9.cell 4 rfl 1 rfl
  have ay2 : w9.cell? ⟨gm, 2, none⟩ = some (.int .i64 0) := S9.cell 4 rfl 2 rfl
  have ay3 : w9.cell? ⟨gm, 3, none⟩ = some (.int .i64 0) := S9.cell 4 rfl 3 rfl
  have ay4 : w9.cell? ⟨gm, 4, none⟩ = some (.int .i64 1) := S9.cell 4 rfl 4 rfl
  have ay5 : w9.cell? ⟨gm, 5, none⟩ = some (.int .i64 1) := S9.cell 4 rfl 5 rfl
  have ay6 : w9.cell? ⟨gm, 6, none⟩ = some (.int .i64 1) := S9.cell 4 rfl 6 rfl
  have ay7 : w9.cell? ⟨gm, 7, none⟩ = some (.int .i64 0) := S9.cell 4 rfl 7 rfl
  have ay8 : w9.cell? ⟨gm, 8, none⟩ = some (.int .i64 0) := S9.cell 4 rfl 8 rfl
  have ay9 : w9.cell? ⟨gm, 9, none⟩ = some (.int .i64 0) := S9.cell 4 rfl 9 rfl
  have ay10 : w9.cell? ⟨gm, 10, none⟩ = some (.int .i64 0) := S9.cell 4 rfl 10 rfl
  have ax0 : w9.cell? ⟨gs, 0, none⟩ = some (.slice (some ⟨gn, 0, none⟩) 1 1) := S9.cell 2 rfl 0 rfl
  have ax1 : w9.cell? ⟨gs, 1, none⟩ = some (.slice (some ⟨gj, 0, none⟩) 1 1) := S9.cell 2 rfl 1 rfl
  have ax2 : w9.cell? ⟨gs, 2, none⟩ = some (.int .i64 1) := S9.cell 2 rfl 2 rfl
  have ax3 : w9.cell? ⟨gs, 3, none⟩ = some (.int .i64 1) := S9.cell 2 rfl 3 rfl
  have ax4 : w9.cell? ⟨gs, 4, none⟩ = some (.int .i64 0) := S9.cell 2 rfl 4 rfl
  have ax5 : w9.cell? ⟨gs, 5, none⟩ = some (.int .i64 0) := S9.cell 2 rfl 5 rfl
  go_wp2_with (simp only [hw9])
  refine (wAlike_any mW mW _).mono ?_
  rintro e wa ⟨rfl, hba⟩
  rw [A1.out]
  have Sa := S9.grow hba
  clear hba ay0 ay1 ay2 ay3 ay4 ay5 ay6 ay7 ay8 ay9 ay10 ax0 ax1 ax2 ax3 ax4 ax5 S9 x1' f11 y11 S8 hw9
  have by0 : wa.cell? ⟨gm, 0, none⟩ = some (.int .i64 0) := Sa.cell 4 rfl 0 rfl
  have by1 : wa.cell? ⟨gm, 1, none⟩ = some (.int .i64 2) := Sa.cell 4 rfl 1 rfl
  have by2 : wa.cell? ⟨gm, 2, none⟩ = some (.int .i64 0) := Sa.cell 4 rfl 2 rfl
  have by3 : wa.cell? ⟨gm, 3, none⟩ = some (.int .i64 0) := Sa.cell 4 rfl 3 rfl
  have by4 : wa.cell? ⟨gm, 4, none⟩ = some (.int .i64 1) := Sa.cell 4 rfl 4 rfl
  have by5 : wa.cell? ⟨gm, 5, none⟩ = some (.int .i64 1) := Sa.cell 4 rfl 5 rfl
  have by6 : wa.cell? ⟨gm, 6, none⟩ = some (.int .i64 1) := Sa.cell 4 rfl 6 rfl
  have by7 : wa.cell? ⟨gm, 7, none⟩ = some (.int .i64 0) := Sa.cell 4 rfl 7 rfl
  have by8 : wa.cell? ⟨gm, 8, none⟩ = some (.int .i64 0) := Sa.cell 4 rfl 8 rfl
  have by9 : wa.cell? ⟨gm, 9, none⟩ = some (.int .i64 0) := Sa.cell 4 rfl 9 rfl
  have by10 : wa.cell? ⟨gm, 10, none⟩ = some (.int .i64 0) := Sa.cell 4 rfl 10 rfl
  have bx0 : wa.cell? ⟨gs, 0, none⟩ = some (.slice (some ⟨gn, 0, none⟩) 1 1) := Sa.cell 2 rfl 0 rfl
  have bx1 : wa.cell? ⟨gs, 1, none⟩ = some (.slice (some ⟨gj, 0, none⟩) 1 1) := Sa.cell 2 rfl 1 rfl
  have bx2 : wa.cell? ⟨gs, 2, none⟩ = some (.int .i64 1) := Sa.cell 2 rfl 2 rfl
  have bx3 : wa.cell? ⟨gs, 3, none⟩ = some (.int .i64 1) := Sa.cell 2 rfl 3 rfl
  have bx4 : wa.cell? ⟨gs, 4, none⟩ = some (.int .i64 0) := Sa.cell 2 rfl 4 rfl
  have bx5 : wa.cell? ⟨gs, 5, none⟩ = some (.int .i64 0) := Sa.cell 2 rfl 5 rfl
  go_wp2_with fail
  refine (wAlike_any mW Msg.zero _).mono ?_
  rintro e wb ⟨rfl, hbb⟩
  rw [A2.out]
  have Sb := Sa.grow hbb
  clear hbb by0 by1 by2 by3 by4 by5 by6 by7 by8 by9 by10 bx0 bx1 bx2 bx3 bx4 bx5 Sa
  have cy0 : wb.cell? ⟨gm, 0, none⟩ = some (.int .i64 0) := Sb.cell 4 rfl 0 rfl
  have cy1 : wb.cell? ⟨gm, 1, none⟩ = some (.int .i64 2) := Sb.cell 4 rfl 1 rfl
  have cy2 : wb.cell? ⟨gm, 2, none⟩ = some (.int .i64 0) := Sb.cell 4 rfl 2 rfl
  have cy3 : wb.cell? ⟨gm, 3, none⟩ = some (.int .i64 0) := Sb.cell 4 rfl 3 rfl
  have cy4 : wb.cell? ⟨gm, 4, none⟩ = some (.int .i64 1) := Sb.cell 4 rfl 4 rfl
  have cy5 : wb.cell? ⟨gm, 5, none⟩ = some (.int .i64 1) := Sb.cell 4 rfl 5 rfl
  have cy6 : wb.cell? ⟨gm, 6, none⟩ = some (.int .i64 1) := Sb.cell 4 rfl 6 rfl
  have cy7 : wb.cell? ⟨gm, 7, none⟩ = some (.int .i64 0) := Sb.cell 4 rfl 7 rfl
  have cy8 : wb.cell? ⟨gm, 8, none⟩ = some (.int .i64 0) := Sb.cell 4 rfl 8 rfl
  have cy9 : wb.cell? ⟨gm, 9, none⟩ = some (.int .i64 0) := Sb.cell 4 rfl 9 rfl
  have cy10 : wb.cell? ⟨gm, 10, none⟩ = some (.int .i64 0) := Sb.cell 4 rfl 10 rfl
  have cx0 : wb.cell? ⟨gs, 0, none⟩ = some (.slice (some ⟨gn, 0, none⟩) 1 1) := Sb.cell 2 rfl 0 rfl
  have cx1 : wb.cell? ⟨gs, 1, none⟩ = some (.slice (some ⟨gj, 0, none⟩) 1 1) := Sb.cell 2 rfl 1 rfl
  have cx2 : wb.cell? ⟨gs, 2, none⟩ = some (.int .i64 1) := Sb.cell 2 rfl 2 rfl
  have cx3 : wb.cell? ⟨gs, 3, none⟩ = some (.int .i64 1) := Sb.cell 2 rfl 3 rfl
  have cx4 : wb.cell? ⟨gs, 4, none⟩ = some (.int .i64 0) := Sb.cell 2 rfl 4 rfl
  have cx5 : wb.cell? ⟨gs, 5, none⟩ = some (.int .i64 0) := Sb.cell 2 rfl 5 rfl
  go_wp2_with fail
  refine (wAll_any Sb (k := 3) rfl (sW gn gj 1) (At1 1 Sb) (HT.out.all Sb.fin) (EK 1).out (show 1 ≤ 1000000 by decide)).mono ?_
  rintro e wc ⟨ac, cc, rfl, -, hbc⟩
  rw [show wAllL (sW gn gj 1) none (sW gn gj 1).nn = [mW] from (EA 1).out]
  have Sc := Sb.grow hbc
  clear hbc cy0 cy1 cy2 cy3 cy4 cy5 cy6 cy7 cy8 cy9 cy10 cx0 cx1 cx2 cx3 cx4 cx5 Sb
  have dy0 : wc.cell? ⟨gm, 0, none⟩ = some (.int .i64 0) := Sc.cell 4 rfl 0 rfl
  have dy1 : wc.cell? ⟨gm, 1, none⟩ = some (.int .i64 2) := Sc.cell 4 rfl 1 rfl
  have dy2 : wc.cell? ⟨gm, 2, none⟩ = some (.int .i64 0) := Sc.cell 4 rfl 2 rfl
  have dy3 : wc.cell? ⟨gm, 3, none⟩ = some (.int .i64 0) := Sc.cell 4 rfl 3 rfl
  have dy4 : wc.cell? ⟨gm, 4, none⟩ = some (.int .i64 1) := Sc.cell 4 rfl 4 rfl
  have dy5 : wc.cell? ⟨gm, 5, none⟩ = some (.int .i64 1) := Sc.cell 4 rfl 5 rfl
  have dy6 : wc.cell? ⟨gm, 6, none⟩ = some (.int .i64 1) := Sc.cell 4 rfl 6 rfl
  have dy7 : wc.cell? ⟨gm, 7, none⟩ = some (.int .i64 0) := Sc.cell 4 rfl 7 rfl
  have dy8 : wc.cell? ⟨gm, 8, none⟩ = some (.int .i64 0) := Sc.cell 4 rfl 8 rfl
  have dy9 : wc.cell? ⟨gm, 9, none⟩ = some (.int .i64 0) := Sc.cell 4 rfl 9 rfl
  have dy10 : wc.cell? ⟨gm, 10, none⟩ = some (.int .i64 0) := Sc.cell 4 rfl 10 rfl
  have dx0 : wc.cell? ⟨gs, 0, none⟩ = some (.slice (some ⟨gn, 0, none⟩) 1 1) := Sc.cell 2 rfl 0 rfl
  have dx1 : wc.cell? ⟨gs, 1, none⟩ = some (.slice (some ⟨gj, 0, none⟩) 1 1) := Sc.cell 2 rfl 1 rfl
  have dx2 : wc.cell? ⟨gs, 2, none⟩ = some (.int .i64 1) := Sc.cell 2 rfl 2 rfl
  have dx3 : wc.cell? ⟨gs, 3, none⟩ = some (.int .i64 1) := Sc.cell 2 rfl 3 rfl
  have dx4 : wc.cell? ⟨gs, 4, none⟩ = some (.int .i64 0) := Sc.cell 2 rfl 4 rfl
  have dx5 : wc.cell? ⟨gs, 5, none⟩ = some (.int .i64 0) := Sc.cell 2 rfl 5 rfl
  go_wp2_with fail
  refine (wHad_any Sc (k := 5) rfl (sW gn gj 1) (At1 1 Sc) 1).mono ?_
  rintro e wd ⟨rfl, hbd⟩
  rw [EH.out]
  have Sd := Sc.grow hbd
  go_wp2
  go_ret
  exact ⟨rfl, Sd.fin⟩
theorem wAlike_iff (a b : Msg) : wAlike a b = true ↔ a.node = b.node ∧ a.kind = b.kind ∧ a.job = b.job ∧ a.inc = b.inc ∧ a.version = b.version ∧ a.epoch = b.epoch ∧ a.mode = b.mode ∧ a.work = b.work := by
  unfold wAlike
  rw [Msg.eq_iff]
  constructor
  · intro h
    exact ⟨show (mBare a).node = (mBare b).node from congrArg Msg.node h, show (mBare a).kind = (mBare b).kind from congrArg Msg.kind h, show (mBare a).job = (mBare b).job from congrArg Msg.job h, show (mBare a).inc = (mBare b).inc from congrArg Msg.inc h, show (mBare a).version = (mBare b).version from congrArg Msg.version h, show (mBare a).epoch = (mBare b).epoch from congrArg Msg.epoch h, show (mBare a).mode = (mBare b).mode from congrArg Msg.mode h, show (mBare a).work = (mBare b).work from congrArg Msg.work h⟩
  · rintro ⟨h1, h2, h3, h4, h5, h6, h7, h8⟩
    simp only [mBare, h1, h2, h3, h4, h5, h6, h7, h8]
set_option maxRecDepth 10000 in
set_option maxHeartbeats 3200000 in
theorem rAlike_any (a b : Msg) (w : World) : Calls Tryd.prog 11 #[.agg #[.int .i64 a.node, .int .i64 a.kind, .int .i64 a.term, .int .i64 a.gen, .int .i64 a.job, .int .i64 a.inc, .int .i64 a.version, .int .i64 a.epoch, .int .i64 a.until_, .int .i64 a.mode, .int .i64 a.work], .agg #[.int .i64 b.node, .int .i64 b.kind, .int .i64 b.term, .int .i64 b.gen, .int .i64 b.job, .int .i64 b.inc, .int .i64 b.version, .int .i64 b.epoch, .int .i64 b.until_, .int .i64 b.mode, .int .i64 b.work]] w fun e w' => e = .returned (.bool (wAlike a b)) ∧ Below w.heap.size w w' := by
  have hb := (((St.start w).alloc (.cells #[.int .i64 a.node, .int .i64 a.kind, .int .i64 a.term, .int .i64 a.gen, .int .i64 a.job, .int .i64 a.inc, .int .i64 a.version, .int .i64 a.epoch, .int .i64 a.until_, .int .i64 a.mode, .int .i64 a.work] 23)).alloc (.cells #[.int .i64 b.node, .int .i64 b.kind, .int .i64 b.term, .int .i64 b.gen, .int .i64 b.job, .int .i64 b.inc, .int .i64 b.version, .int .i64 b.epoch, .int .i64 b.until_, .int .i64 b.mode, .int .i64 b.work] 23)).fin
  have HI := hid (wAlike_iff a b)
  by_cases c0 : a.node = b.node
  case neg =>
    have E : Hid (wAlike a b = false) := by
      rw [Hid, Bool.eq_false_iff]; exact fun h => c0 (HI.out.1 h).1
    have g0 : (a.node == b.node) = false := by simpa using c0
    clear c0 HI
    go_enter Tryd.func11, Tryd.ntmps11
    go_wp2
    go_ret
    exact ⟨by rw [E.out]; rfl, hb⟩
  have g0 : (a.node == b.node) = true := by simpa using c0
  have C0 := hid c0
  clear c0
  by_cases c1 : a.kind = b.kind
  case neg =>
    have E : Hid (wAlike a b = false) := by
      rw [Hid, Bool.eq_false_iff]; exact fun h => c1 (HI.out.1 h).2.1
    have g1 : (a.kind == b.kind) = false := by simpa using c1
    clear c1 HI
    go_enter Tryd.func11, Tryd.ntmps11
    go_wp2
    go_ret
    exact ⟨by rw [E.out]; rfl, hb⟩
  have g1 : (a.kind == b.kind) = true := by simpa using c1
  have C1 := hid c1
  clear c1
  by_cases c2 : a.job = b.job
  case neg =>
    have E : Hid (wAlike a b = false) := by
      rw [Hid, Bool.eq_false_iff]; exact fun h => c2 (HI.out.1 h).2.2.1
    have g2 : (a.job == b.job) = false := by simpa using c2
    clear c2 HI
    go_enter Tryd.func11, Tryd.ntmps11
    go_wp2
    go_ret
    exact ⟨by rw [E.out]; rfl, hb⟩
  have g2 : (a.job == b.job) = true := by simpa using c2
  have C2 := hid c2
  clear c2
  by_cases c3 : a.inc = b.inc
  case neg =>
    have E : Hid (wAlike a b = false) := by
      rw [Hid, Bool.eq_false_iff]; exact fun h => c3 (HI.out.1 h).2.2.2.1
    have g3 : (a.inc == b.inc) = false := by simpa using c3
    clear c3 HI
    go_enter Tryd.func11, Tryd.ntmps11
    go_wp2
    go_ret
    exact ⟨by rw [E.out]; rfl, hb⟩
  have g3 : (a.inc == b.inc) = true := by simpa using c3
  have C3 := hid c3
  clear c3
  by_cases c4 : a.version = b.version
  case neg =>
    have E : Hid (wAlike a b = false) := by
      rw [Hid, Bool.eq_false_iff]; exact fun h => c4 (HI.out.1 h).2.2.2.2.1
    have g4 : (a.version == b.version) = false := by simpa using c4
    clear c4 HI
    go_enter Tryd.func11, Tryd.ntmps11
    go_wp2
    go_ret
    exact ⟨by rw [E.out]; rfl, hb⟩
  have g4 : (a.version == b.version) = true := by simpa using c4
  have C4 := hid c4
  clear c4
  by_cases c5 : a.epoch = b.epoch
  case neg =>
    have E : Hid (wAlike a b = false) := by
      rw [Hid, Bool.eq_false_iff]; exact fun h => c5 (HI.out.1 h).2.2.2.2.2.1
    have g5 : (a.epoch == b.epoch) = false := by simpa using c5
    clear c5 HI
    go_enter Tryd.func11, Tryd.ntmps11
    go_wp2
    go_ret
    exact ⟨by rw [E.out]; rfl, hb⟩
  have g5 : (a.epoch == b.epoch) = true := by simpa using c5
  have C5 := hid c5
  clear c5
  by_cases c6 : a.mode = b.mode
  case neg =>
    have E : Hid (wAlike a b = false) := by
      rw [Hid, Bool.eq_false_iff]; exact fun h => c6 (HI.out.1 h).2.2.2.2.2.2.1
    have g6 : (a.mode == b.mode) = false := by simpa using c6
    clear c6 HI
    go_enter Tryd.func11, Tryd.ntmps11
    go_wp2
    go_ret
    exact ⟨by rw [E.out]; rfl, hb⟩
  have g6 : (a.mode == b.mode) = true := by simpa using c6
  have C6 := hid c6
  clear c6
  by_cases c7 : a.work = b.work
  case neg =>
    have E : Hid (wAlike a b = false) := by
      rw [Hid, Bool.eq_false_iff]; exact fun h => c7 (HI.out.1 h).2.2.2.2.2.2.2
    have g7 : (a.work == b.work) = false := by simpa using c7
    clear c7 HI
    go_enter Tryd.func11, Tryd.ntmps11
    go_wp2
    go_ret
    exact ⟨by rw [E.out]; rfl, hb⟩
  have g7 : (a.work == b.work) = true := by simpa using c7
  have C7 := hid c7
  clear c7
  have E : Hid (wAlike a b = true) := HI.out.2 ⟨C0.out, C1.out, C2.out, C3.out, C4.out, C5.out, C6.out, C7.out⟩
  clear HI
  go_enter Tryd.func11, Tryd.ntmps11
  go_wp2
  go_ret
  exact ⟨by rw [E.out]; rfl, hb⟩
end Go.Proofs.YtilobmefomoemaaDoor
