/- The statements of layer 7: contracts over what lies on the disk; alive. -/
import Derived.Test.YtmfbbonppmhabaaJournalMath
namespace Go.Proofs.Ytmfbbonppmhabaa
set_option linter.unusedVariables false
set_option linter.unusedSimpArgs false
open Go.RowKit
abbrev jL (gj gl gs : Nat) (pd : Value) (q sz used : Nat) (d : DSt) (o : Option (List UInt8 × Nat)) (ops : List (List UInt8)) (tl : List Thing) : List Thing :=
  cellsT gj 70 (jC pd (.pointer (some ⟨gs, 0, none⟩)) (.pointer (some ⟨gl, 0, none⟩)) (jCnt o ops) (jAge o)) :: cellsT gl 99 (logC pd (2 * q) sz used) :: diskT pd d :: cellsT gs 97 (slotC pd 0 q) :: tl
section
variable {w0 w : World} {tl : List Thing} {pd : Value} {N q sz used k gj gl gs : Nat} {d : DSt} {o : Option (List UInt8 × Nat)} {ops : List (List UInt8)}
def OpenI (w0 : World) (pd : Value) (q sz used : Nat) (d : DSt) (o : Option (List UInt8 × Nat)) (ops : List (List UInt8)) (tl : List Thing) (e : Ending) (w' : World) : Prop :=
  ∃ gj gl gs a c b m kk xs, e = .returned (.tuple #[(.pointer (some ⟨gj, 0, none⟩)), .slice a (picL o).length c, .slice b m kk, .int .i64 0]) ∧ (picL o).length ≤ c ∧ c ≤ maxLen ∧ (a = none → c = 0) ∧ xs.map BS.l = ops ∧ xs.length = m ∧ (∀ x ∈ xs, BS.Hd x) ∧
    St w0 w' (jL gj gl gs pd q sz used d o ops (roT a (picL o) :: rowsT eS bsRefs (.slice b m kk) xs :: tl))
theorem jOpenI (S : St w0 w (diskT pd d :: tl)) (G : JGeo N q sz) (hq : q = N / 4) (hl : d.lasts.length = N) (h64 : 64 ≤ N) (hw : d.waits.length ≤ 900) (hs : d.syncs < 1000000) (h1 : jPic d q sz = o) (h2 : jOps d q sz = ops) (h3 : jUsed d q sz = used) :
    Calls Try.prog 9 #[pd] w fun e w' => OpenI w0 pd q sz used (jDisk d q sz) o ops tl e w' := by
  have hsum := G.sum
  refine (jlOpen (q := q) (sz := sz) S N hl h64 G.big hq (by omega) hw hs).mono ?_
  rintro e w' ⟨gj, gl, gs, a, c, b, m, kk, xs, q1, q2, q3, q4, q5, q6, q7, q8⟩
  rw [h1] at q1 q2 q8
  rw [h2] at q5 q8
  rw [h3] at q8
  exact ⟨gj, gl, gs, a, c, b, m, kk, xs, q1, q2, q3, q4, q5, q6, q7, q8⟩
theorem jAppI (S : St w0 w (jL gj gl gs pd q sz used d o ops tl)) (H : JInv N q sz d used o ops k) (G : JGeo N q sz) (hk : k ≤ 200000) (a : Option Addr) (l : List UInt8) (n cap : Nat) (hn : l.length = n) (hm : n ≤ maxLen) (hcap : n ≤ cap) (hnil : a = none → cap = 0) (hA : Reads w0 (cellsT gs 97 (slotC pd 0 q) :: tl) a l) (hr : jRoom sz used (jCnt o ops) l.length = true) :
    ∃ d' used', used' = used + (frameB (codeNum (jCnt o ops) ++ l)).length ∧ JInv N q sz d' used' o (ops ++ [l]) (k + 1) ∧
      Calls Try.prog 12 #[(.pointer (some ⟨gj, 0, none⟩)), .slice a n cap] w fun e w' => e = .returned (.int .i64 0) ∧ St w0 w' (jL gj gl gs pd q sz used' d' o (ops ++ [l]) tl) := by
  obtain ⟨d', used', e1, e2, e3⟩ := H.app G hr
  refine ⟨d', used', e2, e3, ?_⟩
  have hf := H.few
  have hg := G.sum
  have hy := H.syncs
  refine (jlAppend S a l n cap hn hm hcap hnil hA ⟨by unfold jCnt; omega, by unfold jCnt; omega⟩ (by rw [H.len]; omega) H.log.le (by rw [H.waits]; simp) (by omega)).mono ?_
  rintro e w' ⟨rfl, S'⟩
  rw [e1] at S' ⊢
  exact ⟨rfl, S'⟩
theorem jAppNo (S : St w0 w (jL gj gl gs pd q sz used d o ops tl)) (H : JInv N q sz d used o ops k) (G : JGeo N q sz) (hk : k ≤ 200000) (a : Option Addr) (l : List UInt8) (n cap : Nat) (hn : l.length = n) (hm : n ≤ maxLen) (hcap : n ≤ cap) (hnil : a = none → cap = 0) (hA : Reads w0 (cellsT gs 97 (slotC pd 0 q) :: tl) a l) (hr : jRoom sz used (jCnt o ops) l.length = false) :
    Calls Try.prog 12 #[(.pointer (some ⟨gj, 0, none⟩)), .slice a n cap] w fun e w' => ∃ z : Int, e = .returned (.int .i64 z) ∧ (z = 1 ∨ z = 3) ∧ St w0 w' (jL gj gl gs pd q sz used d o ops tl) := by
  obtain ⟨e1, e2⟩ := jStart_no (d := d) (q := q) hr
  have hf := H.few
  have hg := G.sum
  have hy := H.syncs
  have e3 : jAppend d (2 * q) sz used (jCnt o ops) l = ((jStart d (2 * q) sz used (jCnt o ops) l).1, d, used, jCnt o ops) := by
    unfold jAppend
    rw [if_neg (by rcases e1 with e | e <;> rw [e] <;> decide), e2]
  refine (jlAppend S a l n cap hn hm hcap hnil hA ⟨by unfold jCnt; omega, by unfold jCnt; omega⟩ (by rw [H.len]; omega) H.log.le (by rw [H.waits]; simp) (by omega)).mono ?_
  rintro e w' ⟨rfl, S'⟩
  rw [e3] at S' ⊢
  exact ⟨_, rfl, e1, S'⟩
theorem jCompI (S : St w0 w (jL gj gl gs pd q sz used d o ops tl)) (H : JInv N q sz d used o ops k) (G : JGeo N q sz) (hk : k ≤ 200000) (a : Option Addr) (l : List UInt8) (n cap : Nat) (hn : l.length = n) (hm : n ≤ 65536) (hcap : n ≤ cap) (hnil : a = none → cap = 0) (hA : Reads w0 tl a l) :
    (jAge o ≠ jCnt o ops ∧ Takes d 0 q l (picA o + ops.length) ∧ ∃ d', JInv N q sz d' 0 (some (l, picA o + ops.length)) [] (k + 1) ∧
      Calls Try.prog 13 #[(.pointer (some ⟨gj, 0, none⟩)), .slice a n cap] w fun e w' => e = .returned (.int .i64 0) ∧ St w0 w' (jL gj gl gs pd q sz 0 d' (some (l, picA o + ops.length)) [] tl)) ∨
    ((jAge o = jCnt o ops ∨ ¬ Takes d 0 q l (picA o + ops.length)) ∧
      Calls Try.prog 13 #[(.pointer (some ⟨gj, 0, none⟩)), .slice a n cap] w fun e w' => e = .returned (.int .i64 3) ∧ St w0 w' (jL gj gl gs pd q sz used d o ops tl)) := by
  have hf := H.few
  have hg := G.sum
  have hy := H.syncs
  have hC := jlCompact S a l n cap hn hm hcap hnil hA (by rw [H.len]; omega) (by rw [H.len]; omega) (by rw [H.waits]; simp) (by omega)
  rcases H.compact G l with ⟨h1, h2, d', e1, e2⟩ | ⟨h1, e1⟩
  · refine .inl ⟨h1, h2, d', e2, hC.mono ?_⟩
    rintro e w' ⟨rfl, S'⟩
    rw [e1] at S' ⊢
    exact ⟨rfl, S'⟩
  · refine .inr ⟨h1, hC.mono ?_⟩
    rintro e w' ⟨rfl, S'⟩
    rw [e1] at S' ⊢
    exact ⟨rfl, S'⟩
end
theorem ja_1 : jRoom 100 0 (jCnt none []) (([97] : List UInt8).length) = true := by kernel_rfl
theorem ja_2 : (frameB (codeNum (jCnt none []) ++ [97])).length = 8 := by kernel_rfl
theorem ja_3 : (codeNum ((1 : Nat) : Int) ++ ([80] : List UInt8)).length = 2 ∧ (frameB (codeNum ((1 : Nat) : Int) ++ ([80] : List UInt8))).length = 8 := ⟨by kernel_rfl, by kernel_rfl⟩
theorem ja_4 : jRoom 100 0 (jCnt (some ([80], 1)) []) (([98] : List UInt8).length) = true ∧ (frameB (codeNum (jCnt (some ([80], 1)) []) ++ [98])).length = 8 ∧ jRoom 100 8 2 3 = true := ⟨by kernel_rfl, by kernel_rfl, by kernel_rfl⟩
set_option maxRecDepth 100000 in
set_option maxHeartbeats 1600000 in
theorem alive7_any (w : World) : Calls Try.prog 7 #[] w fun e w' => e = .returned (.bool true) ∧ Below w.heap.size w w' := by
  have k1 := fun (w : World) => Lib.run_convert_bytes_const (P := Try.prog) w 27 5 #[.int .u8 97] 1 1 sliceB u8T
  have k2 := fun (w : World) => Lib.run_convert_bytes_const (P := Try.prog) w 27 5 #[.int .u8 80] 1 1 sliceB u8T
  have k3 := fun (w : World) => Lib.run_convert_bytes_const (P := Try.prog) w 27 5 #[.int .u8 98] 1 1 sliceB u8T
  have S0 := St.start w
  have G : JGeo 200 50 100 := ⟨by omega, by omega, by omega, by omega⟩
  have HJ := hid (jNew G)
  go_enter Try.func7, Try.ntmps7
  go_wp2_with fail
  refine (hnew S0 200 (by omega) (by omega)).mono ?_
  rintro e w1 ⟨pd, rfl, S1, -⟩
  obtain ⟨D, hD, d1, d2, d3, d4, d5, d6, H1⟩ := HJ.out
  rw [hD] at S1
  clear hD HJ
  have S1' : St w w1 [diskT pd D] := S1
  go_wp2_with fail
  refine (jOpenI S1' G (by decide) d2 (by omega) (by rw [d1]; simp) (by rw [d3]; omega) d4 d5 d6).mono ?_
  rintro e w2 ⟨gj, gl, gs, a2, b2, c2, m2, kk2, xs2, rfl, -, -, -, -, -, -, S2⟩
  have S3 : St w w2 (jL gj gl gs pd 50 100 0 (jDisk D 50 100) none [] []) := S2.take 4
  clear S2 S1 S1' S0 d1 d2 d3 d4 d5 d6
  have H1' := hid H1
  clear H1
  go_wp2_with fail
  have S5 := (S3.lit [97] #[.int .u8 97] rfl (1, 2)).unrot
  obtain ⟨D2, u2, hu2, H2, C2⟩ := jAppI (by exact S5) H1'.out G (by omega) (some ⟨w2.heap.size, 0, none⟩) [97] 1 1 rfl (by decide) (by omega) (fun e => by cases e) (Reads.ro 1 rfl) ja_1
  rw [ja_2] at hu2
  subst hu2
  refine C2.mono ?_
  rintro e w3 ⟨rfl, S6⟩
  have S7 : St w w3 (jL gj gl gs pd 50 100 8 D2 none [[97]] []) := S6.take 4
  clear S3 S5 S6 C2 H1'
  have H2' := hid H2
  go_wp2_with fail
  have S8 := (S7.lit [80] #[.int .u8 80] rfl (1, 2)).unrot
  rcases jCompI (by exact S8) H2 G (by omega) (some ⟨w3.heap.size, 0, none⟩) [80] 1 1 rfl (by omega) (by omega) (fun e => by cases e) (Reads.ro 0 rfl) with ⟨-, -, D3, H3, C3⟩ | ⟨h1, -⟩
  case inr =>
    exfalso
    rcases h1 with h1 | h1
    · exact absurd h1 (by decide)
    · exact h1 ⟨by decide, by rw [H2.shows]; rfl, show 1 ≤ (codeNum ((1 : Nat) : Int) ++ [80]).length by rw [ja_3.1]; decide, show (codeNum ((1 : Nat) : Int) ++ [80]).length ≤ 4000 by rw [ja_3.1]; decide, show (frameB (codeNum ((1 : Nat) : Int) ++ [80])).length ≤ 50 by rw [ja_3.2]; decide⟩
  refine C3.mono ?_
  rintro e w4 ⟨rfl, S9⟩
  have S10 : St w w4 (jL gj gl gs pd 50 100 0 D3 (some ([80], 1)) [] []) := S9.take 4
  have H3' : Hid (JInv 200 50 100 D3 0 (some ([80], 1)) [] 3) := H3
  clear S7 S8 S9 C3 H2 H2' H3
  go_wp2_with fail
  have S11 := (S10.lit [98] #[.int .u8 98] rfl (1, 2)).unrot
  obtain ⟨D4, u4, hu4, H4, C4⟩ := jAppI (by exact S11) H3'.out G (by omega) (some ⟨w4.heap.size, 0, none⟩) [98] 1 1 rfl (by decide) (by omega) (fun e => by cases e) (Reads.ro 1 rfl) ja_4.1
  rw [ja_4.2.1] at hu4
  subst hu4
  refine C4.mono ?_
  rintro e w5 ⟨rfl, S12⟩
  have S13 : St w w5 [diskT pd D4] := (S12.front 2 rfl).take 1
  obtain ⟨p1, p2, p3, H5⟩ := H4.open_ G (by omega)
  have q1 := H4.waits
  have q2 := H4.len
  have q3 := H4.syncs
  have P1 := hid p1
  have P2 := hid p2
  have P3 := hid p3
  have Q1 := hid q1
  have Q2 := hid q2
  have H5' := hid H5
  clear S10 S11 S12 C4 H3' H4 H5 p1 p2 p3 q1 q2
  go_wp2_with fail
  refine (jOpenI (by exact S13) G (by decide) Q2.out (by omega) (by rw [Q1.out]; simp) (by omega) P1.out P2.out P3.out).mono ?_
  rintro e w6 ⟨gj2, gl2, gs2, a6, c6, b6, m6, kk6, ys, rfl, hp1, hp2, hp3, hys, hm6, hhd, S14⟩
  have A8 := S14.rowsAt eSok 5 rfl
  obtain ⟨y, rfl⟩ : ∃ y, ys = [y] := by
    have := congrArg List.length hys
    simp at this
    exact List.length_eq_one_iff.1 this
  have hm1 : m6 = 1 := by simpa using hm6.symm
  subst hm1
  have hyl : y.l = [98] := by simpa using hys
  have hyh := hhd y (by simp)
  have hya : At w6 y.a y.l := A8.2.2.2.2.2 y (by simp) _ (List.mem_singleton.2 rfl)
  have i0 := fun wx => idxS b6 1 kk6 (fun h => A8.2.2.2.2.1.ok (by simp)) 0 0 rfl (by omega) wx
  have x0 := A8.2.2.2.2.1.cellS (k := 0) (by simp)
  have sr := str_run w6 y.a y.l y.n y.c hyh.len hya
  rw [hyl] at sr
  simp only [List.getElem_cons_zero] at x0
  have hro : At w6 a6 [80] := Reads.ro 4 rfl w6 [] S14
  have sr2 := str_run w6 a6 [80] 1 c6 rfl hro
  have S15 : St w w6 (jL gj2 gl2 gs2 pd 50 100 8 (jDisk D4 50 100) (some ([80], 1)) [[98]] []) := S14.take 4
  have hc2 := S15.cell 0 rfl 3 rfl
  clear A8 hhd hys hyl hyh hya hro hp1 hp2 hp3 hm6 S14 S13
  generalize adr b6 0 = A at *
  obtain ⟨ya, yn, yc, yl⟩ := y
  simp only [] at x0 sr
  rw [show (picL (some (([80] : List UInt8), 1))).length = 1 from rfl]
  have JR := hid ja_4.2.2
  go_wp2_with fail
  refine (jlCount S15).mono ?_
  rintro e w7 ⟨rfl, rfl⟩
  rw [show jCnt (some (([80] : List UInt8), 1)) [[98]] = 2 from rfl]
  go_wp2_with fail
  refine (jlRoom (by exact S15) 3 ⟨by decide, by decide⟩ (by omega) (by omega)).mono ?_
  rintro e w8 ⟨rfl, S16, -⟩
  rw [show jCnt (some (([80] : List UInt8), 1)) [[98]] = 2 from rfl, JR.out]
  go_wp2
  go_ret
  exact ⟨rfl, S16.fin⟩
end Go.Proofs.Ytmfbbonppmhabaa
