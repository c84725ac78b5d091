/- JournalActs. -/
import Derived.Test.YtmfbbonppmhabaaJournalRel
import Derived.Test.YtmfbbonppmhabaaJournalActs
namespace Go.Proofs.Ytmfbbonppmhabaa
set_option linter.unusedVariables false
set_option linter.unusedSimpArgs false
open Go.RowKit
structure ActS (N q sz k used : Nat) (d : DSt) (o : Option (List UInt8 × Nat)) (ops : List (List UInt8)) (r : RD) (xs : List BS) : Prop where
  inv : JInv N q sz d used o ops (2 * k + 2)
  rel : Rel d r
  rows : xs.map BS.l = recL (picA o) ops
  hd : ∀ x ∈ xs, BS.Hd x
section
variable {N q sz k used : Nat} {d : DSt} {o : Option (List UInt8 × Nat)} {ops : List (List UInt8)} {r : RD} {xs : List BS}
structure ActF (N q sz k used : Nat) (d : DSt) (o : Option (List UInt8 × Nat)) (ops : List (List UInt8)) (r : RD) (xs : List BS) : Prop where
  small : ∀ x ∈ xs, x.l.length ≤ 4000
  flat : ((xs.map BS.l).flatMap frameB).length = used
  le : used ≤ sz
  num : xs.length ≤ 65536
  ps : r.ps.length = 0
  sy : r.syncs = d.syncs ∧ d.syncs ≤ 4 * (2 * k + 2)
  b : r.b.length = N
  bytes : r.bytes = d.bytes
  blen : d.bytes.length = N
  wl : d.waits.length = 0
  ll : d.lasts.length = N
  cnt : 0 ≤ jCnt o ops ∧ jCnt o ops ≤ 2 * k + 2
theorem ActS.facts (h : ActS N q sz k used d o ops r xs) (G : JGeo N q sz) : ActF N q sz k used d o ops r xs := by
  have hb := h.rel.bytes h.inv.fit
  have hl : d.bytes.length = d.lasts.length := dAll_len _ _ h.inv.fit
  have hf := h.inv.few
  have hlog := h.inv.log
  have hrow := h.rows
  refine ⟨?_, ?_, hlog.le, ?_, by rw [h.rel.ps, h.inv.waits]; rfl, ⟨h.rel.syncs, by have := h.inv.syncs; omega⟩, by rw [h.rel.b]; exact h.inv.len, hb, by rw [hl]; exact h.inv.len, by rw [h.inv.waits]; rfl, h.inv.len, by unfold jCnt; omega, by unfold jCnt; omega⟩
  · intro x hx
    exact (hlog.ok _ (by rw [← hrow]; exact List.mem_map_of_mem hx)).2
  · rw [hrow]; exact hlog.len_
  · have h1 := flat_ge _ hlog.ok
    have h2 := hlog.len_
    have h3 := hlog.le
    have h4 := G.sum
    have h5 := G.big
    have h6 := congrArg List.length hrow
    rw [List.length_map] at h6
    omega
end
theorem rslStart_lens (r : RD) (fr sz : Nat) (b : List UInt8) (age : Int) : (rslStart r fr sz b age).2.ps.length ≤ r.ps.length + 4020 ∧ (rslStart r fr sz b age).2.syncs ≤ r.syncs + 1 := by
  unfold rslStart
  split
  · exact ⟨Nat.le_add_right _ _, Nat.le_add_right _ _⟩
  split
  · exact ⟨Nat.le_add_right _ _, Nat.le_add_right _ _⟩
  split
  · exact ⟨Nat.le_add_right _ _, Nat.le_add_right _ _⟩
  · obtain ⟨st, hst⟩ : ∃ st, fr + (if picI (pic (piece r.bytes (fr + 1 * sz) sz)) ≤ picI (pic (piece r.bytes (fr + 0 * sz) sz)) ∧ 0 ≤ picI (pic (piece r.bytes (fr + 0 * sz) sz)) then sz else 0) = st := ⟨_, rfl⟩
    rw [hst]
    have h1 := RD.write_len ((r.write (st : Int) (List.replicate sz 0)).sync) (st : Int) (frameB (codeNum age ++ b))
    have h2 := RD.write_len r (st : Int) (List.replicate sz 0)
    have h3 := frameB_le (codeNum age ++ b)
    refine ⟨Nat.le_trans h1.1 (by show 0 + _ ≤ _; omega), ?_⟩
    show (RD.write _ _ _).syncs ≤ _
    rw [h1.2.1]
    show (r.write _ _).syncs + 1 ≤ _
    rw [h2.2.1]
    exact Nat.le_refl _
set_option maxRecDepth 100000 in
set_option maxHeartbeats 12800000 in
theorem journalActs_main (N : Nat) (h1 : 64 ≤ N) (h2 : N ≤ 600) (a : Option Addr) (L : List JAct) (m cap : Nat) (w : World) (hm : L.length = m) (hm1 : m ≤ maxLen) (hA : AtG eJA w a L) (hok : ∀ x ∈ L, JAct.Ok w x) (hf : few7 L = true) :
    Calls Try.prog 4 #[.int .i64 N, .slice a m cap] w fun e w' => e = .returned (.bool true) ∧ Below w.heap.size w w' := by
  have HM := hid hm
  have HA := hid hA
  have HOk := hid hok
  have HF := hid hf
  have hfw := hf
  unfold few7 at hfw
  rw [Bool.and_eq_true, decide_eq_true_iff, List.all_eq_true, hm] at hfw
  have HF2 := hid hfw.2
  have hm60 := hfw.1
  have S0 := St.start w
  unfold maxLen at hm1
  obtain ⟨q, hq⟩ : ∃ q, q = N / 4 := ⟨_, rfl⟩
  obtain ⟨sz, hsz⟩ : ∃ sz, sz = N - 2 * q := ⟨_, rfl⟩
  have G : JGeo N q sz := ⟨by omega, by omega, by omega, by omega⟩
  have HJ := hid (jNew G)
  have HQ : Hid (q = N / 4) := hq
  have HR0 := hid (Rel.new N)
  have gg0 : decide ((N : Int) < 1) = false := decide_eq_false (by omega)
  have gg0n : decide (N < 1) = false := decide_eq_false (by omega)
  have gg1 : decide ((600 : Int) < (N : Int)) = false := decide_eq_false (by omega)
  have gg1n : decide (600 < N) = false := decide_eq_false (by omega)
  clear hm hA hok hf hfw hq hsz
  go_enter Try.func4, Try.ntmps4
  go_wp2_with fail
  refine (alive7_any _).mono ?_
  rintro e w1 ⟨rfl, hb1⟩
  have S1 := S0.grow hb1
  clear hb1
  go_wp2_with fail
  refine (few7_any a L m cap w1 HM.out (by unfold maxLen; omega) (by exact HA.out.all eJAok S1.fin)).mono ?_
  rintro e w2 ⟨rfl, rfl⟩
  rw [HF.out]
  go_wp2_with fail
  refine (hnew S1 N (by omega) (by omega)).mono ?_
  rintro e w2 ⟨pd, rfl, S2, -⟩
  go_wp2_with fail
  refine (rdnew_any S2 N (by omega)).mono ?_
  rintro e w3 ⟨pr, rfl, S3, -⟩
  obtain ⟨D, hD, d1, d2, d3, d4, d5, d6, H1⟩ := HJ.out
  have HRD := HR0.out
  rw [hD] at S3 HRD
  have S3' : St w w3 [diskT pd D, rdT pr ⟨List.replicate N 0, [], 0⟩] := S3.front 1 rfl
  have HRD' := hid HRD
  have D1 := hid d1
  have D2 := hid d2
  have D3 := hid d3
  have D4 := hid d4
  have D5 := hid d5
  have D6 := hid d6
  have HH1 := hid H1
  clear hD HJ S1 S2 S3 HR0 HRD d1 d2 d3 d4 d5 d6 H1
  go_wp2_with fail
  refine (jOpenI S3' G HQ.out D2.out (by omega) (by rw [D1.out]; simp) (by rw [D3.out]; omega) D4.out D5.out D6.out).mono ?_
  rintro e w4 ⟨gj, gl, gs, a4, c4, b4, m4, kk4, zs0, rfl, -, -, -, -, -, -, S4⟩
  obtain ⟨r0, RR0, C0⟩ := rjOpenI (w := w4) (by exact S4.front 6 rfl) G HQ.out (by omega) HRD'.out D1.out D2.out (by rw [D3.out]; omega) D4.out HH1.out D5.out
  have HRR0 := hid RR0
  have HC0 := hid C0
  clear RR0 C0 S4 S3'
  go_wp2_with fail
  refine HC0.out.mono ?_
  rintro e w5 ⟨gm, gt, gk, aP, cP, aO, cO, aL0, cL0, xs0, ws0, rfl, -, -, ⟨hx0, hxd0⟩, S5⟩
  obtain ⟨d0, hd0⟩ : ∃ d0, jDisk D q sz = d0 := ⟨_, rfl⟩
  have S6 : St w w5 (jL gj gl gs pd q sz 0 (jDisk D q sz) none [] (rjL gm gk gt pr q sz r0 none (jCnt none []) aL0 cL0 xs0 [])) := ((((S5.front 10 rfl).front 10 rfl).front 10 rfl).front 10 rfl).take 9
  have AS0 : Hid (ActS N q sz 0 0 (jDisk D q sz) none [] r0 xs0) := ⟨HH1.out.mono (by omega), HRR0.out, hx0, hxd0⟩
  rw [hd0] at S6 AS0
  clear HC0 S5 hx0 hxd0 HRR0 HH1 HRD' D1 D2 D3 D4 D5 D6 hd0
  go_wp2_with fail
  go_loopw [7, 11, 15] (fun l q' i wr => ∃ (k u gj gl gs : Nat) (d : DSt) (o : Option (List UInt8 × Nat)) (ops : List (List UInt8)) (gm gk gt : Nat) (r : RD) (aL : Option Addr) (cL : Nat) (xs : List BS), k ≤ m ∧ l = .pointer (some ⟨gj, 0, none⟩) ∧ q' = .pointer (some ⟨gm, 0, none⟩) ∧ i = .int .i64 k ∧ ActS N q sz k u d o ops r xs ∧ St w wr (jL gj gl gs pd q sz u d o ops (rjL gm gk gt pr q sz r o (jCnt o ops) aL cL xs []))) (fun _ _ i _ => m - (intOf i).toNat)
  case atStart => exact ⟨0, 0, gj, gl, gs, d0, none, [], gm, gk, gt, r0, aL0, cL0, xs0, Nat.zero_le _, rfl, rfl, rfl, AS0.out, S6⟩
  case round =>
    obtain ⟨k, u, gj, gl, gs, d, o, ops, gm, gk, gt, r, aL, cL, xs, hk, rfl, rfl, rfl, has, Sk⟩ := hrel
    have AS := hid has
    clear has S6 AS0
    by_cases hlt : k < m
    case neg =>
      have g0 : decide ((k : Int) < (m : Int)) = false := decide_eq_false (by omega)
      have g0n : decide (k < m) = false := decide_eq_false (by omega)
      go_wp2
      go_ret
      exact ⟨rfl, Sk.fin⟩
    have g0 : decide ((k : Int) < (m : Int)) = true := decide_eq_true (by omega)
    have g0n : decide (k < m) = true := decide_eq_true (by omega)
    have hkl : k < L.length := by rw [HM.out]; exact hlt
    have i0 := fun wx => idxJA a m cap (fun h => HA.out.ok (by rw [HM.out]; exact h)) k k rfl hlt wx
    have HEl : Hid (∀ w', Below w.heap.size w w' → _ ∧ _ ∧ _) := fun w' hb => (HA.out.all eJAok hb).cellJA hkl
    have HX := hid (HOk.out _ (List.getElem_mem hkl))
    have HX3 := HF2.out _ (List.getElem_mem hkl)
    rw [decide_eq_true_iff] at HX3
    generalize L[k] = x at *
    generalize adr a (k * 3) = A at *
    obtain ⟨y0, y1, y2⟩ := HEl.out _ Sk.fin
    have S5 : St w (wr.alloc (.cells #[.int .i64 x.kind, .int .i64 x.keep, .slice x.a x.n x.c] 43)) (jL gj gl gs pd q sz u d o ops (rjL gm gk gt pr q sz r o (jCnt o ops) aL cL xs [cellsT wr.heap.size 43 [.int .i64 x.kind, .int .i64 x.keep, .slice x.a x.n x.c]])) := Sk.newCells _ _
    have hlen := hid HX.out.len
    have FF := AS.out.facts G
    have HOk5 := hid FF.small
    have HFl5 := hid FF.flat
    have HHd5 := hid AS.out.hd
    have hle5 := FF.le
    have hps5 := FF.ps
    have hwl5 := FF.wl
    have hll5 := FF.ll
    have hcn5 := FF.cnt
    have hnum5 := FF.num
    have hsy5 := FF.sy
    have hbb5 := FF.b
    have hby5 : r.bytes.length = r.b.length := by rw [FF.bytes, FF.b]; exact FF.blen
    have hsum := G.sum
    have hbig := G.big
    obtain ⟨hcn5a, hcn5b⟩ := hcn5
    obtain ⟨hsy5a, hsy5b⟩ := hsy5
    have HRow := hid AS.out.rows
    clear FF
    have HLL := hid hll5
    have HBB := hid hbb5
    have HBY := hid hby5
    have HSY := hid hsy5a
    have hll6 : 2 * q + sz ≤ d.lasts.length := by omega
    have hll7 : 2 * q ≤ d.lasts.length := by omega
    have hbb7 : 2 * q ≤ r.b.length := by omega
    have hrs : r.syncs < 1000000 := by omega
    have hds : d.syncs < 1000000 := by omega
    clear hll5 hbb5 hby5 hsy5a
    by_cases hk0 : x.kind = 0
    · have q0 : (x.kind == 0) = true := by simpa using hk0
      clear hk0
      obtain ⟨E, d9, v9, ops9, r9, a1, a2, a3, a4⟩ := AS.out.inv.appR G AS.out.rel x.b
      rw [← HRow.out] at a2
      have HA1 := hid a1
      have HA2 := hid a2
      have HR9 := hid a3
      have HI9 := hid a4
      have tq : (E != E) = false := by simp
      clear a1 a2 a3 a4
      go_wp2_with fail
      refine wp_region_held_drew (S := (fun w' => w'.cell? ⟨wr.heap.size, 2, none⟩ = some (.slice x.a x.n x.c))) (by kernel_rfl) (by exact S5.drew.cell 9 rfl 2 rfl) (fun hHeld => ?_)
      change wpAnyH _ _ _ _ _ 9 (Array.replicate 9 false) _ _
      refine wpAnyH_take (i := 0) (v := ?v1) (ops_at rfl) (by kernel_rfl) (by kernel_rfl) (by kernel_rfl) (fun _ _ _ h => h) (Or.inl ⟨by rfl, ?hy1⟩) (by assumption) ?rest1
      case hy1 => intro w' hSw; (try dsimp only at hSw); go_simp; try with_reducible rfl
      try simp only [Act.put, List.setIfInBounds_toArray, List.set_cons_zero, List.set_cons_succ]
      refine wpAnyH_take (i := 1) (v := ?v2) (ops_at rfl) (by kernel_rfl) (by kernel_rfl) (by kernel_rfl) (fun _ _ _ h => h) (Or.inl ⟨by rfl, ?hy2⟩) (by assumption) ?rest2
      case hy2 => intro w' hSw; (try dsimp only at hSw); go_simp; try with_reducible rfl
      try simp only [Act.put, List.setIfInBounds_toArray, List.set_cons_zero, List.set_cons_succ]
      refine wpAnyH_take (i := 2) (v := ?v3) (ops_at rfl) (by kernel_rfl) (by kernel_rfl) (by kernel_rfl) (fun _ _ _ h => h) (Or.inl ⟨by rfl, ?hy3⟩) (by assumption) ?rest3
      case hy3 => intro w' hSw; (try dsimp only at hSw); go_simp; try with_reducible rfl
      try simp only [Act.put, List.setIfInBounds_toArray, List.set_cons_zero, List.set_cons_succ]
      refine wpAnyH_take (i := 4) (v := ?v4) (ops_at rfl) (by kernel_rfl) (by kernel_rfl) (by kernel_rfl) (fun _ _ _ h => h) (Or.inl ⟨by rfl, ?hy4⟩) (by assumption) ?rest4
      case hy4 => intro w' hSw; (try dsimp only at hSw); go_simp; try with_reducible rfl
      try simp only [Act.put, List.setIfInBounds_toArray, List.set_cons_zero, List.set_cons_succ]
      refine wpAnyH_take (i := 5) (v := ?v5) (ops_at rfl) (by kernel_rfl) (by kernel_rfl) (by kernel_rfl) (fun _ _ _ h => h) (Or.inl ⟨by rfl, ?hy5⟩) (by assumption) ?rest5
      case hy5 => intro w' hSw; (try dsimp only at hSw); go_simp; try with_reducible rfl
      try simp only [Act.put, List.setIfInBounds_toArray, List.set_cons_zero, List.set_cons_succ]
      refine wpAnyH_take (i := 6) (v := ?v6) (ops_at rfl) (by kernel_rfl) (by kernel_rfl) (by kernel_rfl) (fun _ _ _ h => h) (Or.inl ⟨by rfl, ?hy6⟩) (by assumption) ?rest6
      case hy6 => intro w' hSw; (try dsimp only at hSw); go_simp; try with_reducible rfl
      try simp only [Act.put, List.setIfInBounds_toArray, List.set_cons_zero, List.set_cons_succ]
      refine wpAnyH_ready (rs := [3]) (by kernel_rfl) (by simp) ?_
      refine AllReadyH.cons (ops_at rfl) (fun K hK => ?_) AllReadyH.nil
      go_simp
      have hC := jlAppend (by exact S5.drew) x.a x.b x.n x.c hlen.out (by unfold maxLen; omega) HX.out.le HX.out.nil (Reads.old HX.out.isAt) ⟨hcn5a, by omega⟩ hll6 hle5 (by omega) (by omega)
      rw [HA1.out] at hC
      refine hC.mono ?_
      rintro e w10 ⟨rfl, T10⟩
      clear hC
      refine hK.out _ _ (by exact T10.cell 9 rfl 2 rfl) (fun hHeld => ?_)
      clear hK K
      try simp only [Act.put, List.setIfInBounds_toArray, List.set_cons_zero, List.set_cons_succ]
      refine wpAnyH_ready (rs := [7]) (by kernel_rfl) (by simp) ?_
      refine AllReadyH.cons (ops_at rfl) (fun K hK => ?_) AllReadyH.nil
      go_simp
      have hC := rjAppend_any (by exact (((T10.front 7 rfl).front 7 rfl).front 7 rfl).front 7 rfl) x.a x.b x.n x.c hlen.out HX.out.le (by unfold maxLen; omega) (Reads.old HX.out.isAt) ⟨hcn5a, by omega⟩ HHd5.out HOk5.out (by rw [HFl5.out]; exact hle5) (by omega) (by omega) (by omega) (by omega)
      rw [HA2.out] at hC
      refine hC.mono ?_
      rintro e w11 ⟨ys9, aL9, cL9, rfl, hys, hyd, T11⟩
      clear hC
      refine hK.out _ _ (by exact T11.cell 9 rfl 2 rfl) (fun hHeld => ?_)
      clear hK K
      try simp only [Act.put, List.setIfInBounds_toArray, List.set_cons_zero, List.set_cons_succ]
      refine wpAnyH_take (i := 8) (v := ?v9) (ops_at rfl) (by kernel_rfl) (by kernel_rfl) (by kernel_rfl) (fun _ _ _ h => h) (Or.inl ⟨by rfl, ?hy9⟩) (by assumption) ?rest9
      case hy9 => intro w' hSw; (try dsimp only at hSw); go_simp; try with_reducible rfl
      try simp only [Act.put, List.setIfInBounds_toArray, List.set_cons_zero, List.set_cons_succ]
      refine wpAnyH_done (by kernel_rfl) ?_ _
      obtain ⟨gj9, hgj⟩ : ∃ g, gj = g := ⟨_, rfl⟩
      obtain ⟨gl9, hgl⟩ : ∃ g, gl = g := ⟨_, rfl⟩
      obtain ⟨gs9, hgs⟩ : ∃ g, gs = g := ⟨_, rfl⟩
      obtain ⟨gm9, hgm⟩ : ∃ g, gm = g := ⟨_, rfl⟩
      obtain ⟨gk9, hgk⟩ : ∃ g, gk = g := ⟨_, rfl⟩
      obtain ⟨gt9, hgt⟩ : ∃ g, gt = g := ⟨_, rfl⟩
      obtain ⟨o9, ho9⟩ : ∃ o9, o = o9 := ⟨_, rfl⟩
      have AS9 : Hid (ActS N q sz (k + 1) v9 d9 o9 ops9 r9 ys9) := by
        rw [← ho9]
        exact ⟨HI9.out.mono (by omega), HR9.out, hys, hyd⟩
      have S9 : St w w11 (jL gj9 gl9 gs9 pd q sz v9 d9 o9 ops9 (rjL gm9 gk9 gt9 pr q sz r9 o9 (jCnt o9 ops9) aL9 cL9 ys9 [cellsT wr.heap.size 43 [.int .i64 x.kind, .int .i64 x.keep, .slice x.a x.n x.c]])) := by
        rw [← ho9, ← hgj, ← hgl, ← hgs, ← hgm, ← hgk, ← hgt]
        exact (((T11.front 7 rfl).front 7 rfl).front 7 rfl).front 7 rfl
      rw [hgj, hgm]
      clear T10 T11 hys hyd HA1 HA2 HR9 HI9 hgj hgl hgs hgm hgk hgt ho9 S5 Sk
      have F9 := AS9.out.facts G
      have hsz9 := G.sum
      have HSm9 := hid F9.small
      have HFl9 := hid F9.flat
      have HBy9 := hid F9.bytes
      have HBl9 := hid F9.blen
      have HRl9 := hid F9.b
      have HHd9 := hid AS9.out.hd
      have hle9 := F9.le
      have hps9 := F9.ps
      have hwl9 := F9.wl
      have hcn9 := F9.cnt
      clear F9
      have z1 : (jCnt o9 ops9 != jCnt o9 ops9) = false := by simp
      go_wp2_with fail
      refine wp_region_held_drew (S := (fun w' => w'.cell? ⟨gm9, 2, none⟩ = some (.int .i64 (jCnt o9 ops9)) ∧ w'.cell? ⟨wr.heap.size, 2, none⟩ = some (.slice x.a x.n x.c))) (by kernel_rfl) (by exact ⟨S9.drew.cell 4 rfl 2 rfl, S9.drew.cell 9 rfl 2 rfl⟩) (fun hHeld => ?_)
      change wpAnyH _ _ _ _ _ 28 (Array.replicate 28 false) _ _
      refine wpAnyH_take (i := 0) (v := ?v10) (ops_at rfl) (by kernel_rfl) (by kernel_rfl) (by kernel_rfl) (fun _ _ _ h => h) (Or.inl ⟨by rfl, ?hy10⟩) (by assumption) ?rest10
      case hy10 => intro w' hSw; (try dsimp only at hSw); go_simp; try with_reducible rfl
      try simp only [Act.put, List.setIfInBounds_toArray, List.set_cons_zero, List.set_cons_succ]
      refine wpAnyH_take (i := 2) (v := ?v11) (ops_at rfl) (by kernel_rfl) (by kernel_rfl) (by kernel_rfl) (fun _ _ _ h => h) (Or.inl ⟨by rfl, ?hy11⟩) (by assumption) ?rest11
      case hy11 => intro w' hSw; (try dsimp only at hSw); go_simp; try with_reducible rfl
      try simp only [Act.put, List.setIfInBounds_toArray, List.set_cons_zero, List.set_cons_succ]
      refine wpAnyH_take (i := 3) (v := ?v12) (ops_at rfl) (by kernel_rfl) (by kernel_rfl) (by kernel_rfl) (fun _ _ _ h => h) (Or.inl ⟨by rfl, ?hy12⟩) (by assumption) ?rest12
      case hy12 => intro w' hSw; (try dsimp only at hSw); go_simp; try with_reducible rfl
      try simp only [Act.put, List.setIfInBounds_toArray, List.set_cons_zero, List.set_cons_succ]
      refine wpAnyH_take (i := 4) (v := ?v13) (ops_at rfl) (by kernel_rfl) (by kernel_rfl) (by kernel_rfl) (fun _ _ _ h => h) (Or.inl ⟨by rfl, ?hy13⟩) (by assumption) ?rest13
      case hy13 => intro w' hSw; (try dsimp only at hSw); go_simp; try with_reducible rfl
      try simp only [Act.put, List.setIfInBounds_toArray, List.set_cons_zero, List.set_cons_succ]
      refine wpAnyH_take (i := 5) (v := ?v14) (ops_at rfl) (by kernel_rfl) (by kernel_rfl) (by kernel_rfl) (fun _ _ _ h => h) (Or.inl ⟨by rfl, ?hy14⟩) (by assumption) ?rest14
      case hy14 => intro w' hSw; (try dsimp only at hSw); go_simp; try with_reducible rfl
      try simp only [Act.put, List.setIfInBounds_toArray, List.set_cons_zero, List.set_cons_succ]
      refine wpAnyH_ready (rs := [1]) (by kernel_rfl) (by simp) ?_
      refine AllReadyH.cons (ops_at rfl) (fun K hK => ?_) AllReadyH.nil
      go_simp
      refine (jlCount S9.drew).mono ?_
      rintro e w21 ⟨rfl, rfl⟩
      refine hK.out _ _ (by exact ⟨S9.drew.cell 4 rfl 2 rfl, S9.drew.cell 9 rfl 2 rfl⟩) (fun hHeld => ?_)
      clear hK K
      try simp only [Act.put, List.setIfInBounds_toArray, List.set_cons_zero, List.set_cons_succ]
      refine wpAnyH_take (i := 6) (v := ?v16) (ops_at rfl) (by kernel_rfl) (by kernel_rfl) (by kernel_rfl) (fun _ _ _ h => h) (Or.inl ⟨by rfl, ?hy16⟩) (by assumption) ?rest16
      case hy16 => intro w' hSw; (try dsimp only at hSw); go_simp; try with_reducible rfl
      try simp only [Act.put, List.setIfInBounds_toArray, List.set_cons_zero, List.set_cons_succ]
      refine wpAnyH_take (i := 7) (v := ?v17) (ops_at rfl) (by kernel_rfl) (by kernel_rfl) (by kernel_rfl) (fun _ _ _ h => h) (Or.inl ⟨by rfl, ?hy17⟩) (by assumption) ?rest17
      case hy17 => intro w' hSw; (try dsimp only at hSw); go_simp; try with_reducible rfl
      try simp only [Act.put, List.setIfInBounds_toArray, List.set_cons_zero, List.set_cons_succ]
      refine wpAnyH_take (i := 8) (v := ?v18) (ops_at rfl) (by kernel_rfl) (by kernel_rfl) (by kernel_rfl) (fun _ _ _ h => h) (Or.inl ⟨by rfl, ?hy18⟩) (by assumption) ?rest18
      case hy18 => intro w' hSw; (try dsimp only at hSw); go_simp; try with_reducible rfl
      try simp only [Act.put, List.setIfInBounds_toArray, List.set_cons_zero, List.set_cons_succ]
      refine wpAnyH_take (i := 10) (v := ?v19) (ops_at rfl) (by kernel_rfl) (by kernel_rfl) (by kernel_rfl) (fun _ _ _ h => h) (Or.inl ⟨by rfl, ?hy19⟩) (by assumption) ?rest19
      case hy19 => intro w' hSw; (try dsimp only at hSw); go_simp; try with_reducible rfl
      try simp only [Act.put, List.setIfInBounds_toArray, List.set_cons_zero, List.set_cons_succ]
      refine wpAnyH_ready (rs := [9]) (by kernel_rfl) (by simp) ?_
      refine AllReadyH.cons (ops_at rfl) (fun K hK => ?_) AllReadyH.nil
      go_simp
      refine (hbytes (by exact S9.drew) 2 rfl (by omega) N HBl9.out).mono ?_
      rintro e w23 ⟨a23, c23, rfl, T3, -⟩
      refine hK.out _ _ (by exact ⟨T3.cell 4 rfl 2 rfl, T3.cell 9 rfl 2 rfl⟩) (fun hHeld => ?_)
      clear hK K
      try simp only [Act.put, List.setIfInBounds_toArray, List.set_cons_zero, List.set_cons_succ]
      refine wpAnyH_ready (rs := [11]) (by kernel_rfl) (by simp) ?_
      refine AllReadyH.cons (ops_at rfl) (fun K hK => ?_) AllReadyH.nil
      go_simp
      refine (rdbytes_any (by exact T3.front 6 rfl) N HRl9.out (by omega)).mono ?_
      rintro e w24 ⟨a24, c24, rfl, T4, -⟩
      refine hK.out _ _ (by exact ⟨T4.cell 6 rfl 2 rfl, T4.cell 10 rfl 2 rfl⟩) (fun hHeld => ?_)
      clear hK K
      try simp only [Act.put, List.setIfInBounds_toArray, List.set_cons_zero, List.set_cons_succ]
      refine wpAnyH_ready (rs := [12]) (by kernel_rfl) (by simp) ?_
      refine AllReadyH.cons (ops_at rfl) (fun K hK => ?_) AllReadyH.nil
      go_simp
      refine (hcmp T4 true a23 a24 d9.bytes r9.bytes N N c23 c24 (by rw [HBy9.out]; simp) HBl9.out (by rw [HBy9.out]; exact HBl9.out) (by unfold maxLen; omega) (by unfold maxLen; omega) (by exact T4.at 11 rfl) (by exact T4.at 0 rfl)).mono ?_
      rintro e w25 ⟨rfl, T5, -⟩
      have T5' : St w w25 (jL gj9 gl9 gs9 pd q sz v9 d9 o9 ops9 (rdT pr r9 :: cellsT gm9 51 (rjC (.pointer (some ⟨gt9, 0, none⟩)) (.pointer (some ⟨gk9, 0, none⟩)) (jCnt o9 ops9) (jAge o9)) :: cellsT gk9 90 (rlogC pr (2 * q) sz (.slice aL9 ys9.length cL9)) :: rowsT eS bsRefs (.slice aL9 ys9.length cL9) ys9 :: cellsT gt9 108 (rslotC pr 0 q) :: cellsT wr.heap.size 43 [.int .i64 x.kind, .int .i64 x.keep, .slice x.a x.n x.c] :: [])) := (((((T5.drop 1).take 10).front 4 rfl).front 4 rfl).front 4 rfl).front 4 rfl
      clear T3 T4 T5
      refine hK.out _ _ (by exact ⟨T5'.cell 5 rfl 2 rfl, T5'.cell 9 rfl 2 rfl⟩) (fun hHeld => ?_)
      clear hK K
      try simp only [Act.put, List.setIfInBounds_toArray, List.set_cons_zero, List.set_cons_succ]
      refine wpAnyH_take (i := 13) (v := ?v23) (ops_at rfl) (by kernel_rfl) (by kernel_rfl) (by kernel_rfl) (fun _ _ _ h => h) (Or.inl ⟨by rfl, ?hy23⟩) (by assumption) ?rest23
      case hy23 => intro w' hSw; (try dsimp only at hSw); go_simp; try with_reducible rfl
      try simp only [Act.put, List.setIfInBounds_toArray, List.set_cons_zero, List.set_cons_succ]
      refine wpAnyH_take (i := 14) (v := ?v24) (ops_at rfl) (by kernel_rfl) (by kernel_rfl) (by kernel_rfl) (fun _ _ _ h => h) (Or.inl ⟨by rfl, ?hy24⟩) (by assumption) ?rest24
      case hy24 => intro w' hSw; (try dsimp only at hSw); go_simp; try with_reducible rfl
      try simp only [Act.put, List.setIfInBounds_toArray, List.set_cons_zero, List.set_cons_succ]
      refine wpAnyH_take (i := 15) (v := ?v25) (ops_at rfl) (by kernel_rfl) (by kernel_rfl) (by kernel_rfl) (fun _ _ _ h => h) (Or.inl ⟨by rfl, ?hy25⟩) (by assumption) ?rest25
      case hy25 => intro w' hSw; (try dsimp only at hSw); go_simp; try with_reducible rfl
      try simp only [Act.put, List.setIfInBounds_toArray, List.set_cons_zero, List.set_cons_succ]
      refine wpAnyH_take (i := 16) (v := ?v26) (ops_at rfl) (by kernel_rfl) (by kernel_rfl) (by kernel_rfl) (fun _ _ _ h => h) (Or.inl ⟨by rfl, ?hy26⟩) (by assumption) ?rest26
      case hy26 => intro w' hSw; (try dsimp only at hSw); go_simp; try with_reducible rfl
      try simp only [Act.put, List.setIfInBounds_toArray, List.set_cons_zero, List.set_cons_succ]
      refine wpAnyH_take (i := 17) (v := ?v27) (ops_at rfl) (by kernel_rfl) (by kernel_rfl) (by kernel_rfl) (fun _ _ _ h => h) (Or.inl ⟨by rfl, ?hy27⟩) (by assumption) ?rest27
      case hy27 => intro w' hSw; (try dsimp only at hSw); go_simp; try with_reducible rfl
      try simp only [Act.put, List.setIfInBounds_toArray, List.set_cons_zero, List.set_cons_succ]
      refine wpAnyH_take (i := 18) (v := ?v28) (ops_at rfl) (by kernel_rfl) (by kernel_rfl) (by kernel_rfl) (fun _ _ _ h => h) (Or.inl ⟨by rfl, ?hy28⟩) (by assumption) ?rest28
      case hy28 => intro w' hSw; (try dsimp only at hSw); go_simp; try with_reducible rfl
      try simp only [Act.put, List.setIfInBounds_toArray, List.set_cons_zero, List.set_cons_succ]
      refine wpAnyH_take (i := 19) (v := ?v29) (ops_at rfl) (by kernel_rfl) (by kernel_rfl) (by kernel_rfl) (fun _ _ _ h => h) (Or.inl ⟨by rfl, ?hy29⟩) (by assumption) ?rest29
      case hy29 => intro w' hSw; (try dsimp only at hSw); go_simp; try with_reducible rfl
      try simp only [Act.put, List.setIfInBounds_toArray, List.set_cons_zero, List.set_cons_succ]
      refine wpAnyH_take (i := 21) (v := ?v30) (ops_at rfl) (by kernel_rfl) (by kernel_rfl) (by kernel_rfl) (fun _ _ _ h => h) (Or.inl ⟨by rfl, ?hy30⟩) (by assumption) ?rest30
      case hy30 => intro w' hSw; (try dsimp only at hSw); go_simp; try with_reducible rfl
      try simp only [Act.put, List.setIfInBounds_toArray, List.set_cons_zero, List.set_cons_succ]
      refine wpAnyH_take (i := 22) (v := ?v31) (ops_at rfl) (by kernel_rfl) (by kernel_rfl) (by kernel_rfl) (fun _ _ _ h => h) (Or.inl ⟨by rfl, ?hy31⟩) (by assumption) ?rest31
      case hy31 => intro w' hSw; (try dsimp only at hSw); go_simp; try with_reducible rfl
      try simp only [Act.put, List.setIfInBounds_toArray, List.set_cons_zero, List.set_cons_succ]
      refine wpAnyH_take (i := 23) (v := ?v32) (ops_at rfl) (by kernel_rfl) (by kernel_rfl) (by kernel_rfl) (fun _ _ _ h => h) (Or.inl ⟨by rfl, ?hy32⟩) (by assumption) ?rest32
      case hy32 => intro w' hSw; (try dsimp only at hSw); go_simp; try with_reducible rfl
      try simp only [Act.put, List.setIfInBounds_toArray, List.set_cons_zero, List.set_cons_succ]
      refine wpAnyH_take (i := 24) (v := ?v33) (ops_at rfl) (by kernel_rfl) (by kernel_rfl) (by kernel_rfl) (fun _ _ _ h => h) (Or.inl ⟨by rfl, ?hy33⟩) (by assumption) ?rest33
      case hy33 => intro w' hSw; (try dsimp only at hSw); go_simp; try with_reducible rfl
      try simp only [Act.put, List.setIfInBounds_toArray, List.set_cons_zero, List.set_cons_succ]
      refine wpAnyH_ready (rs := [20]) (by kernel_rfl) (by simp) ?_
      refine AllReadyH.cons (ops_at rfl) (fun K hK => ?_) AllReadyH.nil
      go_simp
      refine (jlRoom T5' (x.n : Int) (by omega) (by omega) (by omega)).mono ?_
      rintro e w26 ⟨rfl, T6, -⟩
      refine hK.out _ _ (by exact ⟨T6.cell 5 rfl 2 rfl, T6.cell 9 rfl 2 rfl⟩) (fun hHeld => ?_)
      clear hK K
      try simp only [Act.put, List.setIfInBounds_toArray, List.set_cons_zero, List.set_cons_succ]
      refine wpAnyH_ready (rs := [25]) (by kernel_rfl) (by simp) ?_
      refine AllReadyH.cons (ops_at rfl) (fun K hK => ?_) AllReadyH.nil
      go_simp
      have T7 : St w w26 (cellsT gm9 51 (rjC (.pointer (some ⟨gt9, 0, none⟩)) (.pointer (some ⟨gk9, 0, none⟩)) (jCnt o9 ops9) (jAge o9)) :: cellsT gk9 90 (rlogC pr (2 * q) sz (.slice aL9 ys9.length cL9)) :: rdT pr r9 :: rowsT eS bsRefs (.slice aL9 ys9.length cL9) ys9 :: jL gj9 gl9 gs9 pd q sz v9 d9 o9 ops9 [cellsT gt9 108 (rslotC pr 0 q), cellsT wr.heap.size 43 [.int .i64 x.kind, .int .i64 x.keep, .slice x.a x.n x.c]]) := (((T6.front 7 rfl).front 5 rfl).front 7 rfl).front 7 rfl
      clear T5' T6
      refine (rjRoom_any T7 x.n v9 (by unfold maxLen; omega) HHd9.out HSm9.out HFl9.out hle9 (by omega)).mono ?_
      rintro e w27 ⟨rfl, T8⟩
      refine hK.out _ _ (by exact ⟨T8.cell 0 rfl 2 rfl, T8.cell 9 rfl 2 rfl⟩) (fun hHeld => ?_)
      clear hK K
      try simp only [Act.put, List.setIfInBounds_toArray, List.set_cons_zero, List.set_cons_succ]
      have z2 : (jRoom sz v9 (jCnt o9 ops9) (x.n : Int) != jRoom sz v9 (jCnt o9 ops9) (x.n : Int)) = false := by simp
      refine wpAnyH_take (i := 26) (v := ?v36) (ops_at rfl) (by kernel_rfl) (by kernel_rfl) (by kernel_rfl) (fun _ _ _ h => h) (Or.inl ⟨by rfl, ?hy36⟩) (by assumption) ?rest36
      case hy36 => intro w' hSw; (try dsimp only at hSw); go_simp; try with_reducible rfl
      try simp only [Act.put, List.setIfInBounds_toArray, List.set_cons_zero, List.set_cons_succ]
      refine wpAnyH_take (i := 27) (v := ?v37) (ops_at rfl) (by kernel_rfl) (by kernel_rfl) (by kernel_rfl) (fun _ _ _ h => h) (Or.inl ⟨by rfl, ?hy37⟩) (by assumption) ?rest37
      case hy37 => intro w' hSw; (try dsimp only at hSw); go_simp; try with_reducible rfl
      try simp only [Act.put, List.setIfInBounds_toArray, List.set_cons_zero, List.set_cons_succ]
      refine wpAnyH_done (by kernel_rfl) ?_ _
      go_wp2
      go_roundw
      case rel => exact ⟨k + 1, v9, gj9, gl9, gs9, d9, o9, ops9, gm9, gk9, gt9, r9, aL9, cL9, ys9, by omega, rfl, rfl, by go_num, AS9.out, ((((T8.front 7 rfl).front 7 rfl).front 7 rfl).front 7 rfl).take 9⟩
      case measure => simp [intOf]; omega
    have q0 : (x.kind == 0) = false := by simpa using hk0
    by_cases hk1 : x.kind = 1
    · have q1 : (x.kind == 1) = true := by simpa using hk1
      clear hk0 hk1
      obtain ⟨E, d9, v9, o9, ops9, r9, a1, a2, a5, a3, a4⟩ := AS.out.inv.compR G AS.out.rel x.b
      rw [← HRow.out] at a2
      have HA1 := hid a1
      have HA2 := hid a2
      have HR9 := hid a3
      have HI9 := hid a4
      have HC9 := hid a5
      have tq : (E != E) = false := by simp
      clear a1 a2 a3 a4 a5
      have hsl := rslStart_lens r 0 q x.b (jCnt o ops)
      obtain ⟨hsl1, hsl2⟩ := hsl
      go_wp2_with fail
      refine wp_region_held_drew (S := (fun w' => w'.cell? ⟨wr.heap.size, 2, none⟩ = some (.slice x.a x.n x.c))) (by kernel_rfl) (by exact S5.drew.cell 9 rfl 2 rfl) (fun hHeld => ?_)
      change wpAnyH _ _ _ _ _ 9 (Array.replicate 9 false) _ _
      refine wpAnyH_take (i := 0) (v := ?v38) (ops_at rfl) (by kernel_rfl) (by kernel_rfl) (by kernel_rfl) (fun _ _ _ h => h) (Or.inl ⟨by rfl, ?hy38⟩) (by assumption) ?rest38
      case hy38 => intro w' hSw; (try dsimp only at hSw); go_simp; try with_reducible rfl
      try simp only [Act.put, List.setIfInBounds_toArray, List.set_cons_zero, List.set_cons_succ]
      refine wpAnyH_take (i := 1) (v := ?v39) (ops_at rfl) (by kernel_rfl) (by kernel_rfl) (by kernel_rfl) (fun _ _ _ h => h) (Or.inl ⟨by rfl, ?hy39⟩) (by assumption) ?rest39
      case hy39 => intro w' hSw; (try dsimp only at hSw); go_simp; try with_reducible rfl
      try simp only [Act.put, List.setIfInBounds_toArray, List.set_cons_zero, List.set_cons_succ]
      refine wpAnyH_take (i := 2) (v := ?v40) (ops_at rfl) (by kernel_rfl) (by kernel_rfl) (by kernel_rfl) (fun _ _ _ h => h) (Or.inl ⟨by rfl, ?hy40⟩) (by assumption) ?rest40
      case hy40 => intro w' hSw; (try dsimp only at hSw); go_simp; try with_reducible rfl
      try simp only [Act.put, List.setIfInBounds_toArray, List.set_cons_zero, List.set_cons_succ]
      refine wpAnyH_take (i := 4) (v := ?v41) (ops_at rfl) (by kernel_rfl) (by kernel_rfl) (by kernel_rfl) (fun _ _ _ h => h) (Or.inl ⟨by rfl, ?hy41⟩) (by assumption) ?rest41
      case hy41 => intro w' hSw; (try dsimp only at hSw); go_simp; try with_reducible rfl
      try simp only [Act.put, List.setIfInBounds_toArray, List.set_cons_zero, List.set_cons_succ]
      refine wpAnyH_take (i := 5) (v := ?v42) (ops_at rfl) (by kernel_rfl) (by kernel_rfl) (by kernel_rfl) (fun _ _ _ h => h) (Or.inl ⟨by rfl, ?hy42⟩) (by assumption) ?rest42
      case hy42 => intro w' hSw; (try dsimp only at hSw); go_simp; try with_reducible rfl
      try simp only [Act.put, List.setIfInBounds_toArray, List.set_cons_zero, List.set_cons_succ]
      refine wpAnyH_take (i := 6) (v := ?v43) (ops_at rfl) (by kernel_rfl) (by kernel_rfl) (by kernel_rfl) (fun _ _ _ h => h) (Or.inl ⟨by rfl, ?hy43⟩) (by assumption) ?rest43
      case hy43 => intro w' hSw; (try dsimp only at hSw); go_simp; try with_reducible rfl
      try simp only [Act.put, List.setIfInBounds_toArray, List.set_cons_zero, List.set_cons_succ]
      refine wpAnyH_ready (rs := [3]) (by kernel_rfl) (by simp) ?_
      refine AllReadyH.cons (ops_at rfl) (fun K hK => ?_) AllReadyH.nil
      go_simp
      have hC := jlCompact (by exact S5.drew) x.a x.b x.n x.c hlen.out (by omega) HX.out.le HX.out.nil (Reads.old HX.out.isAt) hll6 hll7 (by omega) (by omega)
      rw [HA1.out] at hC
      refine hC.mono ?_
      rintro e w10 ⟨rfl, T10⟩
      clear hC
      refine hK.out _ _ (by exact T10.cell 9 rfl 2 rfl) (fun hHeld => ?_)
      clear hK K
      try simp only [Act.put, List.setIfInBounds_toArray, List.set_cons_zero, List.set_cons_succ]
      refine wpAnyH_ready (rs := [7]) (by kernel_rfl) (by simp) ?_
      refine AllReadyH.cons (ops_at rfl) (fun K hK => ?_) AllReadyH.nil
      go_simp
      have hC := rjCompact_any (by exact ((((T10.front 8 rfl).front 8 rfl).front 8 rfl).front 8 rfl).front 8 rfl) x.a x.b x.n x.c hlen.out (by omega) HX.out.le (Reads.old HX.out.isAt) HHd5.out (by omega) hbb7 (by omega) (by omega) HBY.out (by omega) (by omega)
      rw [HA2.out] at hC
      refine hC.mono ?_
      rintro e w11 ⟨ys9, aL9, cL9, rfl, hys, hyd, T11⟩
      clear hC
      refine hK.out _ _ (by exact T11.cell 9 rfl 2 rfl) (fun hHeld => ?_)
      clear hK K
      try simp only [Act.put, List.setIfInBounds_toArray, List.set_cons_zero, List.set_cons_succ]
      refine wpAnyH_take (i := 8) (v := ?v46) (ops_at rfl) (by kernel_rfl) (by kernel_rfl) (by kernel_rfl) (fun _ _ _ h => h) (Or.inl ⟨by rfl, ?hy46⟩) (by assumption) ?rest46
      case hy46 => intro w' hSw; (try dsimp only at hSw); go_simp; try with_reducible rfl
      try simp only [Act.put, List.setIfInBounds_toArray, List.set_cons_zero, List.set_cons_succ]
      refine wpAnyH_done (by kernel_rfl) ?_ _
      obtain ⟨gj9, hgj⟩ : ∃ g, gj = g := ⟨_, rfl⟩
      obtain ⟨gl9, hgl⟩ : ∃ g, gl = g := ⟨_, rfl⟩
      obtain ⟨gs9, hgs⟩ : ∃ g, gs = g := ⟨_, rfl⟩
      obtain ⟨gm9, hgm⟩ : ∃ g, gm = g := ⟨_, rfl⟩
      obtain ⟨gk9, hgk⟩ : ∃ g, gk = g := ⟨_, rfl⟩
      obtain ⟨gt9, hgt⟩ : ∃ g, gt = g := ⟨_, rfl⟩
      have AS9 : Hid (ActS N q sz (k + 1) v9 d9 o9 ops9 r9 ys9) := ⟨HI9.out.mono (by omega), HR9.out, hys, hyd⟩
      have S9 : St w w11 (jL gj9 gl9 gs9 pd q sz v9 d9 o9 ops9 (rjL gm9 gk9 gt9 pr q sz r9 o9 (jCnt o9 ops9) aL9 cL9 ys9 [cellsT wr.heap.size 43 [.int .i64 x.kind, .int .i64 x.keep, .slice x.a x.n x.c]])) := by
        rw [HC9.out] at T11
        rw [← hgj, ← hgl, ← hgs, ← hgm, ← hgk, ← hgt]
        show St w w11 (cellsT gj 70 (jC pd (.pointer (some ⟨gs, 0, none⟩)) (.pointer (some ⟨gl, 0, none⟩)) (jCnt o9 ops9) (jAge o9)) :: _)
        exact (((T11.front 8 rfl).front 8 rfl).front 8 rfl).front 8 rfl
      rw [hgj, hgm]
      clear T10 T11 hys hyd HA1 HA2 HR9 HI9 hgj hgl hgs hgm hgk hgt HC9 S5 Sk hsl1 hsl2
      have F9 := AS9.out.facts G
      have hsz9 := G.sum
      have HSm9 := hid F9.small
      have HFl9 := hid F9.flat
      have HBy9 := hid F9.bytes
      have HBl9 := hid F9.blen
      have HRl9 := hid F9.b
      have HHd9 := hid AS9.out.hd
      have hle9 := F9.le
      have hps9 := F9.ps
      have hwl9 := F9.wl
      have hcn9 := F9.cnt
      clear F9
      have z1 : (jCnt o9 ops9 != jCnt o9 ops9) = false := by simp
      go_wp2_with fail
      refine wp_region_held_drew (S := (fun w' => w'.cell? ⟨gm9, 2, none⟩ = some (.int .i64 (jCnt o9 ops9)) ∧ w'.cell? ⟨wr.heap.size, 2, none⟩ = some (.slice x.a x.n x.c))) (by kernel_rfl) (by exact ⟨S9.drew.cell 4 rfl 2 rfl, S9.drew.cell 9 rfl 2 rfl⟩) (fun hHeld => ?_)
      change wpAnyH _ _ _ _ _ 28 (Array.replicate 28 false) _ _
      refine wpAnyH_take (i := 0) (v := ?v47) (ops_at rfl) (by kernel_rfl) (by kernel_rfl) (by kernel_rfl) (fun _ _ _ h => h) (Or.inl ⟨by rfl, ?hy47⟩) (by assumption) ?rest47
      case hy47 => intro w' hSw; (try dsimp only at hSw); go_simp; try with_reducible rfl
      try simp only [Act.put, List.setIfInBounds_toArray, List.set_cons_zero, List.set_cons_succ]
      refine wpAnyH_take (i := 2) (v := ?v48) (ops_at rfl) (by kernel_rfl) (by kernel_rfl) (by kernel_rfl) (fun _ _ _ h => h) (Or.inl ⟨by rfl, ?hy48⟩) (by assumption) ?rest48
      case hy48 => intro w' hSw; (try dsimp only at hSw); go_simp; try with_reducible rfl
      try simp only [Act.put, List.setIfInBounds_toArray, List.set_cons_zero, List.set_cons_succ]
      refine wpAnyH_take (i := 3) (v := ?v49) (ops_at rfl) (by kernel_rfl) (by kernel_rfl) (by kernel_rfl) (fun _ _ _ h => h) (Or.inl ⟨by rfl, ?hy49⟩) (by assumption) ?rest49
      case hy49 => intro w' hSw; (try dsimp only at hSw); go_simp; try with_reducible rfl
      try simp only [Act.put, List.setIfInBounds_toArray, List.set_cons_zero, List.set_cons_succ]
      refine wpAnyH_take (i := 4) (v := ?v50) (ops_at rfl) (by kernel_rfl) (by kernel_rfl) (by kernel_rfl) (fun _ _ _ h => h) (Or.inl ⟨by rfl, ?hy50⟩) (by assumption) ?rest50
      case hy50 => intro w' hSw; (try dsimp only at hSw); go_simp; try with_reducible rfl
      try simp only [Act.put, List.setIfInBounds_toArray, List.set_cons_zero, List.set_cons_succ]
      refine wpAnyH_take (i := 5) (v := ?v51) (ops_at rfl) (by kernel_rfl) (by kernel_rfl) (by kernel_rfl) (fun _ _ _ h => h) (Or.inl ⟨by rfl, ?hy51⟩) (by assumption) ?rest51
      case hy51 => intro w' hSw; (try dsimp only at hSw); go_simp; try with_reducible rfl
      try simp only [Act.put, List.setIfInBounds_toArray, List.set_cons_zero, List.set_cons_succ]
      refine wpAnyH_ready (rs := [1]) (by kernel_rfl) (by simp) ?_
      refine AllReadyH.cons (ops_at rfl) (fun K hK => ?_) AllReadyH.nil
      go_simp
      refine (jlCount S9.drew).mono ?_
      rintro e w21 ⟨rfl, rfl⟩
      refine hK.out _ _ (by exact ⟨S9.drew.cell 4 rfl 2 rfl, S9.drew.cell 9 rfl 2 rfl⟩) (fun hHeld => ?_)
      clear hK K
      try simp only [Act.put, List.setIfInBounds_toArray, List.set_cons_zero, List.set_cons_succ]
      refine wpAnyH_take (i := 6) (v := ?v53) (ops_at rfl) (by kernel_rfl) (by kernel_rfl) (by kernel_rfl) (fun _ _ _ h => h) (Or.inl ⟨by rfl, ?hy53⟩) (by assumption) ?rest53
      case hy53 => intro w' hSw; (try dsimp only at hSw); go_simp; try with_reducible rfl
      try simp only [Act.put, List.setIfInBounds_toArray, List.set_cons_zero, List.set_cons_succ]
      refine wpAnyH_take (i := 7) (v := ?v54) (ops_at rfl) (by kernel_rfl) (by kernel_rfl) (by kernel_rfl) (fun _ _ _ h => h) (Or.inl ⟨by rfl, ?hy54⟩) (by assumption) ?rest54
      case hy54 => intro w' hSw; (try dsimp only at hSw); go_simp; try with_reducible rfl
      try simp only [Act.put, List.setIfInBounds_toArray, List.set_cons_zero, List.set_cons_succ]
      refine wpAnyH_take (i := 8) (v := ?v55) (ops_at rfl) (by kernel_rfl) (by kernel_rfl) (by kernel_rfl) (fun _ _ _ h => h) (Or.inl ⟨by rfl, ?hy55⟩) (by assumption) ?rest55
      case hy55 => intro w' hSw; (try dsimp only at hSw); go_simp; try with_reducible rfl
      try simp only [Act.put, List.setIfInBounds_toArray, List.set_cons_zero, List.set_cons_succ]
      refine wpAnyH_take (i := 10) (v := ?v56) (ops_at rfl) (by kernel_rfl) (by kernel_rfl) (by kernel_rfl) (fun _ _ _ h => h) (Or.inl ⟨by rfl, ?hy56⟩) (by assumption) ?rest56
      case hy56 => intro w' hSw; (try dsimp only at hSw); go_simp; try with_reducible rfl
      try simp only [Act.put, List.setIfInBounds_toArray, List.set_cons_zero, List.set_cons_succ]
      refine wpAnyH_ready (rs := [9]) (by kernel_rfl) (by simp) ?_
      refine AllReadyH.cons (ops_at rfl) (fun K hK => ?_) AllReadyH.nil
      go_simp
      refine (hbytes (by exact S9.drew) 2 rfl (by omega) N HBl9.out).mono ?_
      rintro e w23 ⟨a23, c23, rfl, T3, -⟩
      refine hK.out _ _ (by exact ⟨T3.cell 4 rfl 2 rfl, T3.cell 9 rfl 2 rfl⟩) (fun hHeld => ?_)
      clear hK K
      try simp only [Act.put, List.setIfInBounds_toArray, List.set_cons_zero, List.set_cons_succ]
      refine wpAnyH_ready (rs := [11]) (by kernel_rfl) (by simp) ?_
      refine AllReadyH.cons (ops_at rfl) (fun K hK => ?_) AllReadyH.nil
      go_simp
      refine (rdbytes_any (by exact T3.front 6 rfl) N HRl9.out (by omega)).mono ?_
      rintro e w24 ⟨a24, c24, rfl, T4, -⟩
      refine hK.out _ _ (by exact ⟨T4.cell 6 rfl 2 rfl, T4.cell 10 rfl 2 rfl⟩) (fun hHeld => ?_)
      clear hK K
      try simp only [Act.put, List.setIfInBounds_toArray, List.set_cons_zero, List.set_cons_succ]
      refine wpAnyH_ready (rs := [12]) (by kernel_rfl) (by simp) ?_
      refine AllReadyH.cons (ops_at rfl) (fun K hK => ?_) AllReadyH.nil
      go_simp
      refine (hcmp T4 true a23 a24 d9.bytes r9.bytes N N c23 c24 (by rw [HBy9.out]; simp) HBl9.out (by rw [HBy9.out]; exact HBl9.out) (by unfold maxLen; omega) (by unfold maxLen; omega) (by exact T4.at 11 rfl) (by exact T4.at 0 rfl)).mono ?_
      rintro e w25 ⟨rfl, T5, -⟩
      have T5' : St w w25 (jL gj9 gl9 gs9 pd q sz v9 d9 o9 ops9 (rdT pr r9 :: cellsT gm9 51 (rjC (.pointer (some ⟨gt9, 0, none⟩)) (.pointer (some ⟨gk9, 0, none⟩)) (jCnt o9 ops9) (jAge o9)) :: cellsT gk9 90 (rlogC pr (2 * q) sz (.slice aL9 ys9.length cL9)) :: rowsT eS bsRefs (.slice aL9 ys9.length cL9) ys9 :: cellsT gt9 108 (rslotC pr 0 q) :: cellsT wr.heap.size 43 [.int .i64 x.kind, .int .i64 x.keep, .slice x.a x.n x.c] :: [])) := (((((T5.drop 1).take 10).front 4 rfl).front 4 rfl).front 4 rfl).front 4 rfl
      clear T3 T4 T5
      refine hK.out _ _ (by exact ⟨T5'.cell 5 rfl 2 rfl, T5'.cell 9 rfl 2 rfl⟩) (fun hHeld => ?_)
      clear hK K
      try simp only [Act.put, List.setIfInBounds_toArray, List.set_cons_zero, List.set_cons_succ]
      refine wpAnyH_take (i := 13) (v := ?v60) (ops_at rfl) (by kernel_rfl) (by kernel_rfl) (by kernel_rfl) (fun _ _ _ h => h) (Or.inl ⟨by rfl, ?hy60⟩) (by assumption) ?rest60
      case hy60 => intro w' hSw; (try dsimp only at hSw); go_simp; try with_reducible rfl
      try simp only [Act.put, List.setIfInBounds_toArray, List.set_cons_zero, List.set_cons_succ]
      refine wpAnyH_take (i := 14) (v := ?v61) (ops_at rfl) (by kernel_rfl) (by kernel_rfl) (by kernel_rfl) (fun _ _ _ h => h) (Or.inl ⟨by rfl, ?hy61⟩) (by assumption) ?rest61
      case hy61 => intro w' hSw; (try dsimp only at hSw); go_simp; try with_reducible rfl
      try simp only [Act.put, List.setIfInBounds_toArray, List.set_cons_zero, List.set_cons_succ]
      refine wpAnyH_take (i := 15) (v := ?v62) (ops_at rfl) (by kernel_rfl) (by kernel_rfl) (by kernel_rfl) (fun _ _ _ h => h) (Or.inl ⟨by rfl, ?hy62⟩) (by assumption) ?rest62
      case hy62 => intro w' hSw; (try dsimp only at hSw); go_simp; try with_reducible rfl
      try simp only [Act.put, List.setIfInBounds_toArray, List.set_cons_zero, List.set_cons_succ]
      refine wpAnyH_take (i := 16) (v := ?v63) (ops_at rfl) (by kernel_rfl) (by kernel_rfl) (by kernel_rfl) (fun _ _ _ h => h) (Or.inl ⟨by rfl, ?hy63⟩) (by assumption) ?rest63
      case hy63 => intro w' hSw; (try dsimp only at hSw); go_simp; try with_reducible rfl
      try simp only [Act.put, List.setIfInBounds_toArray, List.set_cons_zero, List.set_cons_succ]
      refine wpAnyH_take (i := 17) (v := ?v64) (ops_at rfl) (by kernel_rfl) (by kernel_rfl) (by kernel_rfl) (fun _ _ _ h => h) (Or.inl ⟨by rfl, ?hy64⟩) (by assumption) ?rest64
      case hy64 => intro w' hSw; (try dsimp only at hSw); go_simp; try with_reducible rfl
      try simp only [Act.put, List.setIfInBounds_toArray, List.set_cons_zero, List.set_cons_succ]
      refine wpAnyH_take (i := 18) (v := ?v65) (ops_at rfl) (by kernel_rfl) (by kernel_rfl) (by kernel_rfl) (fun _ _ _ h => h) (Or.inl ⟨by rfl, ?hy65⟩) (by assumption) ?rest65
      case hy65 => intro w' hSw; (try dsimp only at hSw); go_simp; try with_reducible rfl
      try simp only [Act.put, List.setIfInBounds_toArray, List.set_cons_zero, List.set_cons_succ]
      refine wpAnyH_take (i := 19) (v := ?v66) (ops_at rfl) (by kernel_rfl) (by kernel_rfl) (by kernel_rfl) (fun _ _ _ h => h) (Or.inl ⟨by rfl, ?hy66⟩) (by assumption) ?rest66
      case hy66 => intro w' hSw; (try dsimp only at hSw); go_simp; try with_reducible rfl
      try simp only [Act.put, List.setIfInBounds_toArray, List.set_cons_zero, List.set_cons_succ]
      refine wpAnyH_take (i := 21) (v := ?v67) (ops_at rfl) (by kernel_rfl) (by kernel_rfl) (by kernel_rfl) (fun _ _ _ h => h) (Or.inl ⟨by rfl, ?hy67⟩) (by assumption) ?rest67
      case hy67 => intro w' hSw; (try dsimp only at hSw); go_simp; try with_reducible rfl
      try simp only [Act.put, List.setIfInBounds_toArray, List.set_cons_zero, List.set_cons_succ]
      refine wpAnyH_take (i := 22) (v := ?v68) (ops_at rfl) (by kernel_rfl) (by kernel_rfl) (by kernel_rfl) (fun _ _ _ h => h) (Or.inl ⟨by rfl, ?hy68⟩) (by assumption) ?rest68
      case hy68 => intro w' hSw; (try dsimp only at hSw); go_simp; try with_reducible rfl
      try simp only [Act.put, List.setIfInBounds_toArray, List.set_cons_zero, List.set_cons_succ]
      refine wpAnyH_take (i := 23) (v := ?v69) (ops_at rfl) (by kernel_rfl) (by kernel_rfl) (by kernel_rfl) (fun _ _ _ h => h) (Or.inl ⟨by rfl, ?hy69⟩) (by assumption) ?rest69
      case hy69 => intro w' hSw; (try dsimp only at hSw); go_simp; try with_reducible rfl
      try simp only [Act.put, List.setIfInBounds_toArray, List.set_cons_zero, List.set_cons_succ]
      refine wpAnyH_take (i := 24) (v := ?v70) (ops_at rfl) (by kernel_rfl) (by kernel_rfl) (by kernel_rfl) (fun _ _ _ h => h) (Or.inl ⟨by rfl, ?hy70⟩) (by assumption) ?rest70
      case hy70 => intro w' hSw; (try dsimp only at hSw); go_simp; try with_reducible rfl
      try simp only [Act.put, List.setIfInBounds_toArray, List.set_cons_zero, List.set_cons_succ]
      refine wpAnyH_ready (rs := [20]) (by kernel_rfl) (by simp) ?_
      refine AllReadyH.cons (ops_at rfl) (fun K hK => ?_) AllReadyH.nil
      go_simp
      refine (jlRoom T5' (x.n : Int) (by omega) (by omega) (by omega)).mono ?_
      rintro e w26 ⟨rfl, T6, -⟩
      refine hK.out _ _ (by exact ⟨T6.cell 5 rfl 2 rfl, T6.cell 9 rfl 2 rfl⟩) (fun hHeld => ?_)
      clear hK K
      try simp only [Act.put, List.setIfInBounds_toArray, List.set_cons_zero, List.set_cons_succ]
      refine wpAnyH_ready (rs := [25]) (by kernel_rfl) (by simp) ?_
      refine AllReadyH.cons (ops_at rfl) (fun K hK => ?_) AllReadyH.nil
      go_simp
      have T7 : St w w26 (cellsT gm9 51 (rjC (.pointer (some ⟨gt9, 0, none⟩)) (.pointer (some ⟨gk9, 0, none⟩)) (jCnt o9 ops9) (jAge o9)) :: cellsT gk9 90 (rlogC pr (2 * q) sz (.slice aL9 ys9.length cL9)) :: rdT pr r9 :: rowsT eS bsRefs (.slice aL9 ys9.length cL9) ys9 :: jL gj9 gl9 gs9 pd q sz v9 d9 o9 ops9 [cellsT gt9 108 (rslotC pr 0 q), cellsT wr.heap.size 43 [.int .i64 x.kind, .int .i64 x.keep, .slice x.a x.n x.c]]) := (((T6.front 7 rfl).front 5 rfl).front 7 rfl).front 7 rfl
      clear T5' T6
      refine (rjRoom_any T7 x.n v9 (by unfold maxLen; omega) HHd9.out HSm9.out HFl9.out hle9 (by omega)).mono ?_
      rintro e w27 ⟨rfl, T8⟩
      refine hK.out _ _ (by exact ⟨T8.cell 0 rfl 2 rfl, T8.cell 9 rfl 2 rfl⟩) (fun hHeld => ?_)
      clear hK K
      try simp only [Act.put, List.setIfInBounds_toArray, List.set_cons_zero, List.set_cons_succ]
      have z2 : (jRoom sz v9 (jCnt o9 ops9) (x.n : Int) != jRoom sz v9 (jCnt o9 ops9) (x.n : Int)) = false := by simp
      refine wpAnyH_take (i := 26) (v := ?v73) (ops_at rfl) (by kernel_rfl) (by kernel_rfl) (by kernel_rfl) (fun _ _ _ h => h) (Or.inl ⟨by rfl, ?hy73⟩) (by assumption) ?rest73
      case hy73 => intro w' hSw; (try dsimp only at hSw); go_simp; try with_reducible rfl
      try simp only [Act.put, List.setIfInBounds_toArray, List.set_cons_zero, List.set_cons_succ]
      refine wpAnyH_take (i := 27) (v := ?v74) (ops_at rfl) (by kernel_rfl) (by kernel_rfl) (by kernel_rfl) (fun _ _ _ h => h) (Or.inl ⟨by rfl, ?hy74⟩) (by assumption) ?rest74
      case hy74 => intro w' hSw; (try dsimp only at hSw); go_simp; try with_reducible rfl
      try simp only [Act.put, List.setIfInBounds_toArray, List.set_cons_zero, List.set_cons_succ]
      refine wpAnyH_done (by kernel_rfl) ?_ _
      go_wp2
      go_roundw
      case rel => exact ⟨k + 1, v9, gj9, gl9, gs9, d9, o9, ops9, gm9, gk9, gt9, r9, aL9, cL9, ys9, by omega, rfl, rfl, by go_num, AS9.out, ((((T8.front 7 rfl).front 7 rfl).front 7 rfl).front 7 rfl).take 9⟩
      case measure => simp [intOf]; omega
    have q1 : (x.kind == 1) = false := by simpa using hk1
    by_cases hk2 : x.kind = 2
    · have q2 : (x.kind == 2) = true := by simpa using hk2
      clear hk0 hk1 hk2
      obtain ⟨E, d8, u8, c8, r8, p8, a1, a2, a3, a4, vQ, opsQ, QR, QW, QL, QS, QP, QO, QU, QJ⟩ := AS.out.inv.tearR G AS.out.rel x.b x.keep (by omega)
      rw [← HRow.out] at a2
      have HA1 := hid a1
      have HA2 := hid a2
      have tq : (E != E) = false := by simp
      have QR := hid QR
      have QW := hid QW
      have QL := hid QL
      have QS := hid QS
      have QP := hid QP
      have QO := hid QO
      have QU := hid QU
      have QJ := hid QJ
      clear a1 a2
      go_wp2_with fail
      refine wp_region_held_drew (S := (fun w' => w'.cell? ⟨wr.heap.size, 2, none⟩ = some (.slice x.a x.n x.c) ∧ w'.cell? ⟨wr.heap.size, 0, none⟩ = some (.int .i64 x.kind))) (by kernel_rfl) (by exact ⟨S5.drew.cell 9 rfl 2 rfl, S5.drew.cell 9 rfl 0 rfl⟩) (fun hHeld => ?_)
      change wpAnyH _ _ _ _ _ 14 (Array.replicate 14 false) _ _
      refine wpAnyH_take (i := 0) (v := ?v75) (ops_at rfl) (by kernel_rfl) (by kernel_rfl) (by kernel_rfl) (fun _ _ _ h => h) (Or.inl ⟨by rfl, ?hy75⟩) (by assumption) ?rest75
      case hy75 => intro w' hSw; (try dsimp only at hSw); go_simp; try with_reducible rfl
      try simp only [Act.put, List.setIfInBounds_toArray, List.set_cons_zero, List.set_cons_succ]
      refine wpAnyH_take (i := 1) (v := ?v76) (ops_at rfl) (by kernel_rfl) (by kernel_rfl) (by kernel_rfl) (fun _ _ _ h => h) (Or.inl ⟨by rfl, ?hy76⟩) (by assumption) ?rest76
      case hy76 => intro w' hSw; (try dsimp only at hSw); go_simp; try with_reducible rfl
      try simp only [Act.put, List.setIfInBounds_toArray, List.set_cons_zero, List.set_cons_succ]
      refine wpAnyH_take (i := 2) (v := ?v77) (ops_at rfl) (by kernel_rfl) (by kernel_rfl) (by kernel_rfl) (fun _ _ _ h => h) (Or.inl ⟨by rfl, ?hy77⟩) (by assumption) ?rest77
      case hy77 => intro w' hSw; (try dsimp only at hSw); go_simp; try with_reducible rfl
      try simp only [Act.put, List.setIfInBounds_toArray, List.set_cons_zero, List.set_cons_succ]
      refine wpAnyH_take (i := 3) (v := ?v78) (ops_at rfl) (by kernel_rfl) (by kernel_rfl) (by kernel_rfl) (fun _ _ _ h => h) (Or.inl ⟨by rfl, ?hy78⟩) (by assumption) ?rest78
      case hy78 => intro w' hSw; (try dsimp only at hSw); go_simp; try with_reducible rfl
      try simp only [Act.put, List.setIfInBounds_toArray, List.set_cons_zero, List.set_cons_succ]
      refine wpAnyH_take (i := 4) (v := ?v79) (ops_at rfl) (by kernel_rfl) (by kernel_rfl) (by kernel_rfl) (fun _ _ _ h => h) (Or.inl ⟨by rfl, ?hy79⟩) (by assumption) ?rest79
      case hy79 => intro w' hSw; (try dsimp only at hSw); go_simp; try with_reducible rfl
      try simp only [Act.put, List.setIfInBounds_toArray, List.set_cons_zero, List.set_cons_succ]
      refine wpAnyH_take (i := 5) (v := ?v80) (ops_at rfl) (by kernel_rfl) (by kernel_rfl) (by kernel_rfl) (fun _ _ _ h => h) (Or.inl ⟨by rfl, ?hy80⟩) (by assumption) ?rest80
      case hy80 => intro w' hSw; (try dsimp only at hSw); go_simp; try with_reducible rfl
      try simp only [Act.put, List.setIfInBounds_toArray, List.set_cons_zero, List.set_cons_succ]
      refine wpAnyH_take (i := 6) (v := ?v81) (ops_at rfl) (by kernel_rfl) (by kernel_rfl) (by kernel_rfl) (fun _ _ _ h => h) (Or.inl ⟨by rfl, ?hy81⟩) (by assumption) ?rest81
      case hy81 => intro w' hSw; (try dsimp only at hSw); go_simp; try with_reducible rfl
      try simp only [Act.put, List.setIfInBounds_toArray, List.set_cons_zero, List.set_cons_succ]
      refine wpAnyH_take (i := 8) (v := ?v82) (ops_at rfl) (by kernel_rfl) (by kernel_rfl) (by kernel_rfl) (fun _ _ _ h => h) (Or.inl ⟨by rfl, ?hy82⟩) (by assumption) ?rest82
      case hy82 => intro w' hSw; (try dsimp only at hSw); go_simp; try with_reducible rfl
      try simp only [Act.put, List.setIfInBounds_toArray, List.set_cons_zero, List.set_cons_succ]
      refine wpAnyH_take (i := 9) (v := ?v83) (ops_at rfl) (by kernel_rfl) (by kernel_rfl) (by kernel_rfl) (fun _ _ _ h => h) (Or.inl ⟨by rfl, ?hy83⟩) (by assumption) ?rest83
      case hy83 => intro w' hSw; (try dsimp only at hSw); go_simp; try with_reducible rfl
      try simp only [Act.put, List.setIfInBounds_toArray, List.set_cons_zero, List.set_cons_succ]
      refine wpAnyH_take (i := 10) (v := ?v84) (ops_at rfl) (by kernel_rfl) (by kernel_rfl) (by kernel_rfl) (fun _ _ _ h => h) (Or.inl ⟨by rfl, ?hy84⟩) (by assumption) ?rest84
      case hy84 => intro w' hSw; (try dsimp only at hSw); go_simp; try with_reducible rfl
      try simp only [Act.put, List.setIfInBounds_toArray, List.set_cons_zero, List.set_cons_succ]
      refine wpAnyH_ready (rs := [7]) (by kernel_rfl) (by simp) ?_
      refine AllReadyH.cons (ops_at rfl) (fun K hK => ?_) AllReadyH.nil
      go_simp
      have hC := jlStart (by exact S5.drew) x.a x.b x.n x.c hlen.out (by unfold maxLen; omega) HX.out.le HX.out.nil (Reads.old HX.out.isAt) ⟨hcn5a, by omega⟩ hll6 hle5 (by omega)
      rw [HA1.out] at hC
      refine hC.mono ?_
      rintro e w10 ⟨rfl, T10⟩
      clear hC
      refine hK.out _ _ (by exact ⟨T10.cell 9 rfl 2 rfl, T10.cell 9 rfl 0 rfl⟩) (fun hHeld => ?_)
      clear hK K
      try simp only [Act.put, List.setIfInBounds_toArray, List.set_cons_zero, List.set_cons_succ]
      refine wpAnyH_ready (rs := [11]) (by kernel_rfl) (by simp) ?_
      refine AllReadyH.cons (ops_at rfl) (fun K hK => ?_) AllReadyH.nil
      go_simp
      have hC := rjStart_any (by exact (((T10.front 7 rfl).front 7 rfl).front 7 rfl).front 7 rfl) x.a x.b x.n x.c hlen.out HX.out.le (by unfold maxLen; omega) (Reads.old HX.out.isAt) ⟨hcn5a, by omega⟩ HHd5.out HOk5.out (by rw [HFl5.out]; exact hle5) (by omega) (by omega) (by omega)
      rw [HA2.out] at hC
      refine hC.mono ?_
      rintro e w11 ⟨ysX, aLX, cLX, rfl, -, -, T11⟩
      clear hC
      refine hK.out _ _ (by exact ⟨T11.cell 9 rfl 2 rfl, T11.cell 9 rfl 0 rfl⟩) (fun hHeld => ?_)
      clear hK K
      try simp only [Act.put, List.setIfInBounds_toArray, List.set_cons_zero, List.set_cons_succ]
      refine wpAnyH_take (i := 12) (v := ?v87) (ops_at rfl) (by kernel_rfl) (by kernel_rfl) (by kernel_rfl) (fun _ _ _ h => h) (Or.inl ⟨by rfl, ?hy87⟩) (by assumption) ?rest87
      case hy87 => intro w' hSw; (try dsimp only at hSw); go_simp; try with_reducible rfl
      try simp only [Act.put, List.setIfInBounds_toArray, List.set_cons_zero, List.set_cons_succ]
      refine wpAnyH_take (i := 13) (v := ?v88) (ops_at rfl) (by kernel_rfl) (by kernel_rfl) (by kernel_rfl) (fun _ _ _ h => h) (Or.inl ⟨by rfl, ?hy88⟩) (by assumption) ?rest88
      case hy88 => intro w' hSw; (try dsimp only at hSw); go_simp; try with_reducible rfl
      try simp only [Act.put, List.setIfInBounds_toArray, List.set_cons_zero, List.set_cons_succ]
      refine wpAnyH_done (by kernel_rfl) ?_ _
      have S8 : St w w11 [diskT pd d8, rdT pr r8, cellsT wr.heap.size 43 [.int .i64 x.kind, .int .i64 x.keep, .slice x.a x.n x.c]] := (((T11.front 9 rfl).front 3 rfl).front 7 rfl).take 3
      have x8 := S8.cell 2 rfl 1 rfl
      clear T10 T11 HA1 HA2 S5 Sk
      go_wp2_with fail
      refine (hcrash S8 0 rfl x.keep HX.out.k0 HX.out.k1 (by omega)).mono ?_
      rintro e w11 ⟨rfl, T11⟩
      have x11 := T11.cell 2 rfl 1 rfl
      go_wp2_with fail
      refine (rdcrash_any (by exact T11.front 1 rfl) x.keep (by omega)).mono ?_
      rintro e w12 ⟨rfl, T12⟩
      obtain ⟨d2, hd2⟩ : ∃ d2, d8.crash x.keep = d2 := ⟨_, rfl⟩
      obtain ⟨r2, hr2⟩ : ∃ r2, r8.crash x.keep = r2 := ⟨_, rfl⟩
      rw [hr2] at T12 QR
      have T12' : St w w12 [diskT pd d2, rdT pr r2, cellsT wr.heap.size 43 [.int .i64 x.kind, .int .i64 x.keep, .slice x.a x.n x.c]] := by rw [← hd2]; exact T12.front 1 rfl
      rw [hd2] at QR QW QL QS QP QO QU QJ
      clear T11 T12 hd2 hr2 S8
      go_wp2_with fail
      refine (jOpenI T12' G (by have := HQ.out; omega) QL.out (by omega) (by rw [QW.out]; simp) (by rw [QS.out]; omega) QP.out QO.out QU.out).mono ?_
      rintro e w13 ⟨gj9, gl9, gs9, a13, c13, b13, m13, kk13, zs, rfl, -, -, -, hzs, hmz, hzd, T13⟩
      obtain ⟨r9, RR, C9⟩ := rjOpenI (w := w13) (by exact T13.front 6 rfl) G (by have := HQ.out; omega) (by omega) QR.out QW.out QL.out (by rw [QS.out]; omega) QP.out QJ.out QO.out
      have HRR := hid RR
      have HC9 := hid C9
      clear RR C9 T13 T12'
      go_wp2_with fail
      refine HC9.out.mono ?_
      rintro e w14 ⟨gm9, gt9, gk9, aP, cP, aO, cO, aL9, cL9, ys9, ws, rfl, ⟨hp1, hp2, hp3⟩, ⟨hws, hwd⟩, ⟨hys, hyd⟩, T14⟩
      have hwm : ws.length = m13 := by rw [← hmz]; have h1 := congrArg List.length hzs; have h2 := congrArg List.length hws; rw [List.length_map] at h1 h2; omega
      subst hwm
      have hwn : ws.length ≤ 65536 := by
        have h1 := congrArg List.length hws
        rw [List.length_map] at h1
        have h2 := QJ.out.few
        omega
      have HZd := hid hzd
      have HWd := hid hwd
      have HYd := hid hyd
      have HYs := hid hys
      have tq : (zs.map BS.l == ws.map BS.l) = true := by rw [hzs, hws]; simp
      have TQ := hid tq
      have A1 : Hid (At w14 a13 (picL o)) := Reads.ro 11 rfl w14 [] T14
      have A2 : Hid (At w14 aP (picL o)) := Reads.ro 5 rfl w14 [] T14
      clear HC9 hzs hws hzd hwd hyd hys hmz tq
      go_wp2_with fail
      refine (bytes_any a13 aP (picL o) (picL o) _ _ c13 cP _ rfl rfl (Nat.le_trans hp1 hp2) (Nat.le_trans hp1 hp2) A1.out A2.out).mono ?_
      rintro e wb ⟨rfl, nz, rfl⟩
      rw [show (picL o == picL o) = true by simp]
      have T15 := T14.drewN nz
      clear T14 A1 A2
      go_wp2_with fail
      refine (same_rows2 (by exact T15) (k := 12) (j := 6) rfl HZd.out rfl HWd.out (by omega) (by omega)).mono ?_
      rintro e w15 ⟨rfl, T16⟩
      rw [TQ.out]
      clear hp1 hp2 hp3
      obtain ⟨d9, hd9⟩ : ∃ d9, jDisk d2 q sz = d9 := ⟨_, rfl⟩
      obtain ⟨o9, ho9⟩ : ∃ o9, o = o9 := ⟨_, rfl⟩
      obtain ⟨ops9, hops9⟩ : ∃ ops9, opsQ = ops9 := ⟨_, rfl⟩
      obtain ⟨v9, hv9⟩ : ∃ v9, vQ = v9 := ⟨_, rfl⟩
      rw [hd9] at HRR QJ T16
      have AS9 : Hid (ActS N q sz (k + 1) v9 d9 o9 ops9 r9 ys9) := by
        rw [← ho9, ← hops9, ← hv9]
        exact ⟨QJ.out.mono (by omega), HRR.out, HYs.out, HYd.out⟩
      have S9 : St w w15 (jL gj9 gl9 gs9 pd q sz v9 d9 o9 ops9 (rjL gm9 gk9 gt9 pr q sz r9 o9 (jCnt o9 ops9) aL9 cL9 ys9 [cellsT wr.heap.size 43 [.int .i64 x.kind, .int .i64 x.keep, .slice x.a x.n x.c]])) := by
        rw [← ho9, ← hops9, ← hv9]
        exact ((((((((((T16.front 13 rfl).front 5 rfl).front 5 rfl).front 5 rfl).front 5 rfl).front 5 rfl).front 11 rfl).front 11 rfl).front 11 rfl).front 11 rfl).take 10
      clear T15 T16 QR QW QL QS QP QO QU QJ HRR HYs HYd hd9 ho9 hops9 hv9
      have F9 := AS9.out.facts G
      have hsz9 := G.sum
      have HSm9 := hid F9.small
      have HFl9 := hid F9.flat
      have HBy9 := hid F9.bytes
      have HBl9 := hid F9.blen
      have HRl9 := hid F9.b
      have HHd9 := hid AS9.out.hd
      have hle9 := F9.le
      have hps9 := F9.ps
      have hwl9 := F9.wl
      have hcn9 := F9.cnt
      clear F9
      have z1 : (jCnt o9 ops9 != jCnt o9 ops9) = false := by simp
      go_wp2_with fail
      refine wp_region_held_drew (S := (fun w' => w'.cell? ⟨gm9, 2, none⟩ = some (.int .i64 (jCnt o9 ops9)) ∧ w'.cell? ⟨wr.heap.size, 2, none⟩ = some (.slice x.a x.n x.c))) (by kernel_rfl) (by exact ⟨S9.drew.cell 4 rfl 2 rfl, S9.drew.cell 9 rfl 2 rfl⟩) (fun hHeld => ?_)
      change wpAnyH _ _ _ _ _ 28 (Array.replicate 28 false) _ _
      refine wpAnyH_take (i := 0) (v := ?v89) (ops_at rfl) (by kernel_rfl) (by kernel_rfl) (by kernel_rfl) (fun _ _ _ h => h) (Or.inl ⟨by rfl, ?hy89⟩) (by assumption) ?rest89
      case hy89 => intro w' hSw; (try dsimp only at hSw); go_simp; try with_reducible rfl
      try simp only [Act.put, List.setIfInBounds_toArray, List.set_cons_zero, List.set_cons_succ]
      refine wpAnyH_take (i := 2) (v := ?v90) (ops_at rfl) (by kernel_rfl) (by kernel_rfl) (by kernel_rfl) (fun _ _ _ h => h) (Or.inl ⟨by rfl, ?hy90⟩) (by assumption) ?rest90
      case hy90 => intro w' hSw; (try dsimp only at hSw); go_simp; try with_reducible rfl
      try simp only [Act.put, List.setIfInBounds_toArray, List.set_cons_zero, List.set_cons_succ]
      refine wpAnyH_take (i := 3) (v := ?v91) (ops_at rfl) (by kernel_rfl) (by kernel_rfl) (by kernel_rfl) (fun _ _ _ h => h) (Or.inl ⟨by rfl, ?hy91⟩) (by assumption) ?rest91
      case hy91 => intro w' hSw; (try dsimp only at hSw); go_simp; try with_reducible rfl
      try simp only [Act.put, List.setIfInBounds_toArray, List.set_cons_zero, List.set_cons_succ]
      refine wpAnyH_take (i := 4) (v := ?v92) (ops_at rfl) (by kernel_rfl) (by kernel_rfl) (by kernel_rfl) (fun _ _ _ h => h) (Or.inl ⟨by rfl, ?hy92⟩) (by assumption) ?rest92
      case hy92 => intro w' hSw; (try dsimp only at hSw); go_simp; try with_reducible rfl
      try simp only [Act.put, List.setIfInBounds_toArray, List.set_cons_zero, List.set_cons_succ]
      refine wpAnyH_take (i := 5) (v := ?v93) (ops_at rfl) (by kernel_rfl) (by kernel_rfl) (by kernel_rfl) (fun _ _ _ h => h) (Or.inl ⟨by rfl, ?hy93⟩) (by assumption) ?rest93
      case hy93 => intro w' hSw; (try dsimp only at hSw); go_simp; try with_reducible rfl
      try simp only [Act.put, List.setIfInBounds_toArray, List.set_cons_zero, List.set_cons_succ]
      refine wpAnyH_ready (rs := [1]) (by kernel_rfl) (by simp) ?_
      refine AllReadyH.cons (ops_at rfl) (fun K hK => ?_) AllReadyH.nil
      go_simp
      refine (jlCount S9.drew).mono ?_
      rintro e w21 ⟨rfl, rfl⟩
      refine hK.out _ _ (by exact ⟨S9.drew.cell 4 rfl 2 rfl, S9.drew.cell 9 rfl 2 rfl⟩) (fun hHeld => ?_)
      clear hK K
      try simp only [Act.put, List.setIfInBounds_toArray, List.set_cons_zero, List.set_cons_succ]
      refine wpAnyH_take (i := 6) (v := ?v95) (ops_at rfl) (by kernel_rfl) (by kernel_rfl) (by kernel_rfl) (fun _ _ _ h => h) (Or.inl ⟨by rfl, ?hy95⟩) (by assumption) ?rest95
      case hy95 => intro w' hSw; (try dsimp only at hSw); go_simp; try with_reducible rfl
      try simp only [Act.put, List.setIfInBounds_toArray, List.set_cons_zero, List.set_cons_succ]
      refine wpAnyH_take (i := 7) (v := ?v96) (ops_at rfl) (by kernel_rfl) (by kernel_rfl) (by kernel_rfl) (fun _ _ _ h => h) (Or.inl ⟨by rfl, ?hy96⟩) (by assumption) ?rest96
      case hy96 => intro w' hSw; (try dsimp only at hSw); go_simp; try with_reducible rfl
      try simp only [Act.put, List.setIfInBounds_toArray, List.set_cons_zero, List.set_cons_succ]
      refine wpAnyH_take (i := 8) (v := ?v97) (ops_at rfl) (by kernel_rfl) (by kernel_rfl) (by kernel_rfl) (fun _ _ _ h => h) (Or.inl ⟨by rfl, ?hy97⟩) (by assumption) ?rest97
      case hy97 => intro w' hSw; (try dsimp only at hSw); go_simp; try with_reducible rfl
      try simp only [Act.put, List.setIfInBounds_toArray, List.set_cons_zero, List.set_cons_succ]
      refine wpAnyH_take (i := 10) (v := ?v98) (ops_at rfl) (by kernel_rfl) (by kernel_rfl) (by kernel_rfl) (fun _ _ _ h => h) (Or.inl ⟨by rfl, ?hy98⟩) (by assumption) ?rest98
      case hy98 => intro w' hSw; (try dsimp only at hSw); go_simp; try with_reducible rfl
      try simp only [Act.put, List.setIfInBounds_toArray, List.set_cons_zero, List.set_cons_succ]
      refine wpAnyH_ready (rs := [9]) (by kernel_rfl) (by simp) ?_
      refine AllReadyH.cons (ops_at rfl) (fun K hK => ?_) AllReadyH.nil
      go_simp
      refine (hbytes (by exact S9.drew) 2 rfl (by omega) N HBl9.out).mono ?_
      rintro e w23 ⟨a23, c23, rfl, T3, -⟩
      refine hK.out _ _ (by exact ⟨T3.cell 4 rfl 2 rfl, T3.cell 9 rfl 2 rfl⟩) (fun hHeld => ?_)
      clear hK K
      try simp only [Act.put, List.setIfInBounds_toArray, List.set_cons_zero, List.set_cons_succ]
      refine wpAnyH_ready (rs := [11]) (by kernel_rfl) (by simp) ?_
      refine AllReadyH.cons (ops_at rfl) (fun K hK => ?_) AllReadyH.nil
      go_simp
      refine (rdbytes_any (by exact T3.front 6 rfl) N HRl9.out (by omega)).mono ?_
      rintro e w24 ⟨a24, c24, rfl, T4, -⟩
      refine hK.out _ _ (by exact ⟨T4.cell 6 rfl 2 rfl, T4.cell 10 rfl 2 rfl⟩) (fun hHeld => ?_)
      clear hK K
      try simp only [Act.put, List.setIfInBounds_toArray, List.set_cons_zero, List.set_cons_succ]
      refine wpAnyH_ready (rs := [12]) (by kernel_rfl) (by simp) ?_
      refine AllReadyH.cons (ops_at rfl) (fun K hK => ?_) AllReadyH.nil
      go_simp
      refine (hcmp T4 true a23 a24 d9.bytes r9.bytes N N c23 c24 (by rw [HBy9.out]; simp) HBl9.out (by rw [HBy9.out]; exact HBl9.out) (by unfold maxLen; omega) (by unfold maxLen; omega) (by exact T4.at 11 rfl) (by exact T4.at 0 rfl)).mono ?_
      rintro e w25 ⟨rfl, T5, -⟩
      have T5' : St w w25 (jL gj9 gl9 gs9 pd q sz v9 d9 o9 ops9 (rdT pr r9 :: cellsT gm9 51 (rjC (.pointer (some ⟨gt9, 0, none⟩)) (.pointer (some ⟨gk9, 0, none⟩)) (jCnt o9 ops9) (jAge o9)) :: cellsT gk9 90 (rlogC pr (2 * q) sz (.slice aL9 ys9.length cL9)) :: rowsT eS bsRefs (.slice aL9 ys9.length cL9) ys9 :: cellsT gt9 108 (rslotC pr 0 q) :: cellsT wr.heap.size 43 [.int .i64 x.kind, .int .i64 x.keep, .slice x.a x.n x.c] :: [])) := (((((T5.drop 1).take 10).front 4 rfl).front 4 rfl).front 4 rfl).front 4 rfl
      clear T3 T4 T5
      refine hK.out _ _ (by exact ⟨T5'.cell 5 rfl 2 rfl, T5'.cell 9 rfl 2 rfl⟩) (fun hHeld => ?_)
      clear hK K
      try simp only [Act.put, List.setIfInBounds_toArray, List.set_cons_zero, List.set_cons_succ]
      refine wpAnyH_take (i := 13) (v := ?v102) (ops_at rfl) (by kernel_rfl) (by kernel_rfl) (by kernel_rfl) (fun _ _ _ h => h) (Or.inl ⟨by rfl, ?hy102⟩) (by assumption) ?rest102
      case hy102 => intro w' hSw; (try dsimp only at hSw); go_simp; try with_reducible rfl
      try simp only [Act.put, List.setIfInBounds_toArray, List.set_cons_zero, List.set_cons_succ]
      refine wpAnyH_take (i := 14) (v := ?v103) (ops_at rfl) (by kernel_rfl) (by kernel_rfl) (by kernel_rfl) (fun _ _ _ h => h) (Or.inl ⟨by rfl, ?hy103⟩) (by assumption) ?rest103
      case hy103 => intro w' hSw; (try dsimp only at hSw); go_simp; try with_reducible rfl
      try simp only [Act.put, List.setIfInBounds_toArray, List.set_cons_zero, List.set_cons_succ]
      refine wpAnyH_take (i := 15) (v := ?v104) (ops_at rfl) (by kernel_rfl) (by kernel_rfl) (by kernel_rfl) (fun _ _ _ h => h) (Or.inl ⟨by rfl, ?hy104⟩) (by assumption) ?rest104
      case hy104 => intro w' hSw; (try dsimp only at hSw); go_simp; try with_reducible rfl
      try simp only [Act.put, List.setIfInBounds_toArray, List.set_cons_zero, List.set_cons_succ]
      refine wpAnyH_take (i := 16) (v := ?v105) (ops_at rfl) (by kernel_rfl) (by kernel_rfl) (by kernel_rfl) (fun _ _ _ h => h) (Or.inl ⟨by rfl, ?hy105⟩) (by assumption) ?rest105
      case hy105 => intro w' hSw; (try dsimp only at hSw); go_simp; try with_reducible rfl
      try simp only [Act.put, List.setIfInBounds_toArray, List.set_cons_zero, List.set_cons_succ]
      refine wpAnyH_take (i := 17) (v := ?v106) (ops_at rfl) (by kernel_rfl) (by kernel_rfl) (by kernel_rfl) (fun _ _ _ h => h) (Or.inl ⟨by rfl, ?hy106⟩) (by assumption) ?rest106
      case hy106 => intro w' hSw; (try dsimp only at hSw); go_simp; try with_reducible rfl
      try simp only [Act.put, List.setIfInBounds_toArray, List.set_cons_zero, List.set_cons_succ]
      refine wpAnyH_take (i := 18) (v := ?v107) (ops_at rfl) (by kernel_rfl) (by kernel_rfl) (by kernel_rfl) (fun _ _ _ h => h) (Or.inl ⟨by rfl, ?hy107⟩) (by assumption) ?rest107
      case hy107 => intro w' hSw; (try dsimp only at hSw); go_simp; try with_reducible rfl
      try simp only [Act.put, List.setIfInBounds_toArray, List.set_cons_zero, List.set_cons_succ]
      refine wpAnyH_take (i := 19) (v := ?v108) (ops_at rfl) (by kernel_rfl) (by kernel_rfl) (by kernel_rfl) (fun _ _ _ h => h) (Or.inl ⟨by rfl, ?hy108⟩) (by assumption) ?rest108
      case hy108 => intro w' hSw; (try dsimp only at hSw); go_simp; try with_reducible rfl
      try simp only [Act.put, List.setIfInBounds_toArray, List.set_cons_zero, List.set_cons_succ]
      refine wpAnyH_take (i := 21) (v := ?v109) (ops_at rfl) (by kernel_rfl) (by kernel_rfl) (by kernel_rfl) (fun _ _ _ h => h) (Or.inl ⟨by rfl, ?hy109⟩) (by assumption) ?rest109
      case hy109 => intro w' hSw; (try dsimp only at hSw); go_simp; try with_reducible rfl
      try simp only [Act.put, List.setIfInBounds_toArray, List.set_cons_zero, List.set_cons_succ]
      refine wpAnyH_take (i := 22) (v := ?v110) (ops_at rfl) (by kernel_rfl) (by kernel_rfl) (by kernel_rfl) (fun _ _ _ h => h) (Or.inl ⟨by rfl, ?hy110⟩) (by assumption) ?rest110
      case hy110 => intro w' hSw; (try dsimp only at hSw); go_simp; try with_reducible rfl
      try simp only [Act.put, List.setIfInBounds_toArray, List.set_cons_zero, List.set_cons_succ]
      refine wpAnyH_take (i := 23) (v := ?v111) (ops_at rfl) (by kernel_rfl) (by kernel_rfl) (by kernel_rfl) (fun _ _ _ h => h) (Or.inl ⟨by rfl, ?hy111⟩) (by assumption) ?rest111
      case hy111 => intro w' hSw; (try dsimp only at hSw); go_simp; try with_reducible rfl
      try simp only [Act.put, List.setIfInBounds_toArray, List.set_cons_zero, List.set_cons_succ]
      refine wpAnyH_take (i := 24) (v := ?v112) (ops_at rfl) (by kernel_rfl) (by kernel_rfl) (by kernel_rfl) (fun _ _ _ h => h) (Or.inl ⟨by rfl, ?hy112⟩) (by assumption) ?rest112
      case hy112 => intro w' hSw; (try dsimp only at hSw); go_simp; try with_reducible rfl
      try simp only [Act.put, List.setIfInBounds_toArray, List.set_cons_zero, List.set_cons_succ]
      refine wpAnyH_ready (rs := [20]) (by kernel_rfl) (by simp) ?_
      refine AllReadyH.cons (ops_at rfl) (fun K hK => ?_) AllReadyH.nil
      go_simp
      refine (jlRoom T5' (x.n : Int) (by omega) (by omega) (by omega)).mono ?_
      rintro e w26 ⟨rfl, T6, -⟩
      refine hK.out _ _ (by exact ⟨T6.cell 5 rfl 2 rfl, T6.cell 9 rfl 2 rfl⟩) (fun hHeld => ?_)
      clear hK K
      try simp only [Act.put, List.setIfInBounds_toArray, List.set_cons_zero, List.set_cons_succ]
      refine wpAnyH_ready (rs := [25]) (by kernel_rfl) (by simp) ?_
      refine AllReadyH.cons (ops_at rfl) (fun K hK => ?_) AllReadyH.nil
      go_simp
      have T7 : St w w26 (cellsT gm9 51 (rjC (.pointer (some ⟨gt9, 0, none⟩)) (.pointer (some ⟨gk9, 0, none⟩)) (jCnt o9 ops9) (jAge o9)) :: cellsT gk9 90 (rlogC pr (2 * q) sz (.slice aL9 ys9.length cL9)) :: rdT pr r9 :: rowsT eS bsRefs (.slice aL9 ys9.length cL9) ys9 :: jL gj9 gl9 gs9 pd q sz v9 d9 o9 ops9 [cellsT gt9 108 (rslotC pr 0 q), cellsT wr.heap.size 43 [.int .i64 x.kind, .int .i64 x.keep, .slice x.a x.n x.c]]) := (((T6.front 7 rfl).front 5 rfl).front 7 rfl).front 7 rfl
      clear T5' T6
      refine (rjRoom_any T7 x.n v9 (by unfold maxLen; omega) HHd9.out HSm9.out HFl9.out hle9 (by omega)).mono ?_
      rintro e w27 ⟨rfl, T8⟩
      refine hK.out _ _ (by exact ⟨T8.cell 0 rfl 2 rfl, T8.cell 9 rfl 2 rfl⟩) (fun hHeld => ?_)
      clear hK K
      try simp only [Act.put, List.setIfInBounds_toArray, List.set_cons_zero, List.set_cons_succ]
      have z2 : (jRoom sz v9 (jCnt o9 ops9) (x.n : Int) != jRoom sz v9 (jCnt o9 ops9) (x.n : Int)) = false := by simp
      refine wpAnyH_take (i := 26) (v := ?v115) (ops_at rfl) (by kernel_rfl) (by kernel_rfl) (by kernel_rfl) (fun _ _ _ h => h) (Or.inl ⟨by rfl, ?hy115⟩) (by assumption) ?rest115
      case hy115 => intro w' hSw; (try dsimp only at hSw); go_simp; try with_reducible rfl
      try simp only [Act.put, List.setIfInBounds_toArray, List.set_cons_zero, List.set_cons_succ]
      refine wpAnyH_take (i := 27) (v := ?v116) (ops_at rfl) (by kernel_rfl) (by kernel_rfl) (by kernel_rfl) (fun _ _ _ h => h) (Or.inl ⟨by rfl, ?hy116⟩) (by assumption) ?rest116
      case hy116 => intro w' hSw; (try dsimp only at hSw); go_simp; try with_reducible rfl
      try simp only [Act.put, List.setIfInBounds_toArray, List.set_cons_zero, List.set_cons_succ]
      refine wpAnyH_done (by kernel_rfl) ?_ _
      go_wp2
      go_roundw
      case rel => exact ⟨k + 1, v9, gj9, gl9, gs9, d9, o9, ops9, gm9, gk9, gt9, r9, aL9, cL9, ys9, by omega, rfl, rfl, by go_num, AS9.out, ((((T8.front 7 rfl).front 7 rfl).front 7 rfl).front 7 rfl).take 9⟩
      case measure => simp [intOf]; omega
    have q2 : (x.kind == 2) = false := by simpa using hk2
    by_cases hk3 : x.kind = 3
    · have q3 : (x.kind == 3) = true := by simpa using hk3
      clear hk0 hk1 hk2 hk3
      have HI := AS.out.inv
      obtain ⟨d8, hd8⟩ : ∃ d8, d = d8 := ⟨_, rfl⟩
      obtain ⟨r8, hr8⟩ : ∃ r8, r = r8 := ⟨_, rfl⟩
      obtain ⟨vQ, hvQ⟩ : ∃ vQ, u = vQ := ⟨_, rfl⟩
      obtain ⟨opsQ, hopsQ⟩ : ∃ opsQ, ops = opsQ := ⟨_, rfl⟩
      have hcr : d8.crash x.keep = d := by rw [← hd8]; exact crash_id HI.waits _
      have QR : Hid (Rel (d8.crash x.keep) (r8.crash x.keep)) := by rw [← hd8, ← hr8]; exact AS.out.rel.crash _ HI.fit
      obtain ⟨p1, p2, p3, p4⟩ := HI.open_ G (by omega)
      have QW : Hid ((d8.crash x.keep).waits = []) := by rw [hcr]; exact HI.waits
      have QL : Hid ((d8.crash x.keep).lasts.length = N) := by rw [hcr]; exact HI.len
      have QS : Hid ((d8.crash x.keep).syncs = d.syncs) := by rw [hcr]; exact rfl
      have QP : Hid (jPic (d8.crash x.keep) q sz = o) := by rw [hcr]; exact p1
      have QO : Hid (jOps (d8.crash x.keep) q sz = opsQ) := by rw [hcr, ← hopsQ]; exact p2
      have QU : Hid (jUsed (d8.crash x.keep) q sz = vQ) := by rw [hcr, ← hvQ]; exact p3
      have QJ : Hid (JInv N q sz (jDisk (d8.crash x.keep) q sz) vQ o opsQ (2 * k + 2 + 2)) := by rw [hcr, ← hvQ, ← hopsQ]; exact p4.mono (by omega)
      have a3 : d8.waits.length ≤ 1 := by rw [← hd8]; omega
      have a4 : r8.ps.length ≤ 65536 := by rw [← hr8]; omega
      go_wp2_with fail
      refine wp_region_held_drew (S := (fun w' => w'.cell? ⟨wr.heap.size, 2, none⟩ = some (.slice x.a x.n x.c) ∧ w'.cell? ⟨wr.heap.size, 0, none⟩ = some (.int .i64 x.kind))) (by kernel_rfl) (by exact ⟨S5.drew.cell 9 rfl 2 rfl, S5.drew.cell 9 rfl 0 rfl⟩) (fun hHeld => ?_)
      change wpAnyH _ _ _ _ _ 14 (Array.replicate 14 false) _ _
      refine wpAnyH_take (i := 0) (v := ?v117) (ops_at rfl) (by kernel_rfl) (by kernel_rfl) (by kernel_rfl) (fun _ _ _ h => h) (Or.inl ⟨by rfl, ?hy117⟩) (by assumption) ?rest117
      case hy117 => intro w' hSw; (try dsimp only at hSw); go_simp; try with_reducible rfl
      try simp only [Act.put, List.setIfInBounds_toArray, List.set_cons_zero, List.set_cons_succ]
      refine wpAnyH_take (i := 1) (v := ?v118) (ops_at rfl) (by kernel_rfl) (by kernel_rfl) (by kernel_rfl) (fun _ _ _ h => h) (Or.inl ⟨by rfl, ?hy118⟩) (by assumption) ?rest118
      case hy118 => intro w' hSw; (try dsimp only at hSw); go_simp; try with_reducible rfl
      try simp only [Act.put, List.setIfInBounds_toArray, List.set_cons_zero, List.set_cons_succ]
      refine wpAnyH_take (i := 2) (v := ?v119) (ops_at rfl) (by kernel_rfl) (by kernel_rfl) (by kernel_rfl) (fun _ _ _ h => h) (Or.inl ⟨by rfl, ?hy119⟩) (by assumption) ?rest119
      case hy119 => intro w' hSw; (try dsimp only at hSw); go_simp; try with_reducible rfl
      try simp only [Act.put, List.setIfInBounds_toArray, List.set_cons_zero, List.set_cons_succ]
      refine wpAnyH_take (i := 3) (v := ?v120) (ops_at rfl) (by kernel_rfl) (by kernel_rfl) (by kernel_rfl) (fun _ _ _ h => h) (Or.inl ⟨by rfl, ?hy120⟩) (by assumption) ?rest120
      case hy120 => intro w' hSw; (try dsimp only at hSw); go_simp; try with_reducible rfl
      try simp only [Act.put, List.setIfInBounds_toArray, List.set_cons_zero, List.set_cons_succ]
      refine wpAnyH_take (i := 4) (v := undef) (ops_at rfl) (by kernel_rfl) (by kernel_rfl) (by kernel_rfl) (fun _ _ _ h => h) (Or.inr ⟨by rfl, rfl⟩) (by assumption) ?rest121
      try simp only [Act.put, List.setIfInBounds_toArray, List.set_cons_zero, List.set_cons_succ]
      refine wpAnyH_take (i := 5) (v := undef) (ops_at rfl) (by kernel_rfl) (by kernel_rfl) (by kernel_rfl) (fun _ _ _ h => h) (Or.inr ⟨by rfl, rfl⟩) (by assumption) ?rest122
      try simp only [Act.put, List.setIfInBounds_toArray, List.set_cons_zero, List.set_cons_succ]
      refine wpAnyH_take (i := 6) (v := undef) (ops_at rfl) (by kernel_rfl) (by kernel_rfl) (by kernel_rfl) (fun _ _ _ h => h) (Or.inr ⟨by rfl, rfl⟩) (by assumption) ?rest123
      try simp only [Act.put, List.setIfInBounds_toArray, List.set_cons_zero, List.set_cons_succ]
      refine wpAnyH_take (i := 7) (v := undef) (ops_at rfl) (by kernel_rfl) (by kernel_rfl) (by kernel_rfl) (fun _ _ _ h => h) (Or.inr ⟨by rfl, rfl⟩) (by assumption) ?rest124
      try simp only [Act.put, List.setIfInBounds_toArray, List.set_cons_zero, List.set_cons_succ]
      refine wpAnyH_take (i := 8) (v := undef) (ops_at rfl) (by kernel_rfl) (by kernel_rfl) (by kernel_rfl) (fun _ _ _ h => h) (Or.inr ⟨by rfl, rfl⟩) (by assumption) ?rest125
      try simp only [Act.put, List.setIfInBounds_toArray, List.set_cons_zero, List.set_cons_succ]
      refine wpAnyH_take (i := 9) (v := undef) (ops_at rfl) (by kernel_rfl) (by kernel_rfl) (by kernel_rfl) (fun _ _ _ h => h) (Or.inr ⟨by rfl, rfl⟩) (by assumption) ?rest126
      try simp only [Act.put, List.setIfInBounds_toArray, List.set_cons_zero, List.set_cons_succ]
      refine wpAnyH_take (i := 10) (v := undef) (ops_at rfl) (by kernel_rfl) (by kernel_rfl) (by kernel_rfl) (fun _ _ _ h => h) (Or.inr ⟨by rfl, rfl⟩) (by assumption) ?rest127
      try simp only [Act.put, List.setIfInBounds_toArray, List.set_cons_zero, List.set_cons_succ]
      refine wpAnyH_take (i := 11) (v := undef) (ops_at rfl) (by kernel_rfl) (by kernel_rfl) (by kernel_rfl) (fun _ _ _ h => h) (Or.inr ⟨by rfl, rfl⟩) (by assumption) ?rest128
      try simp only [Act.put, List.setIfInBounds_toArray, List.set_cons_zero, List.set_cons_succ]
      refine wpAnyH_take (i := 12) (v := undef) (ops_at rfl) (by kernel_rfl) (by kernel_rfl) (by kernel_rfl) (fun _ _ _ h => h) (Or.inr ⟨by rfl, rfl⟩) (by assumption) ?rest129
      try simp only [Act.put, List.setIfInBounds_toArray, List.set_cons_zero, List.set_cons_succ]
      refine wpAnyH_take (i := 13) (v := ?v130) (ops_at rfl) (by kernel_rfl) (by kernel_rfl) (by kernel_rfl) (fun _ _ _ h => h) (Or.inl ⟨by rfl, ?hy130⟩) (by assumption) ?rest130
      case hy130 => intro w' hSw; (try dsimp only at hSw); go_simp; try with_reducible rfl
      try simp only [Act.put, List.setIfInBounds_toArray, List.set_cons_zero, List.set_cons_succ]
      refine wpAnyH_done (by kernel_rfl) ?_ _
      have S8 : St w (wr.alloc (.cells #[.int .i64 x.kind, .int .i64 x.keep, .slice x.a x.n x.c] 43)).drew [diskT pd d8, rdT pr r8, cellsT wr.heap.size 43 [.int .i64 x.kind, .int .i64 x.keep, .slice x.a x.n x.c]] := by rw [← hd8, ← hr8]; exact (((S5.drew.front 9 rfl).front 7 rfl).front 4 rfl).take 3
      have x8 := S8.cell 2 rfl 1 rfl
      clear HI p1 p2 p3 p4 hcr hd8 hr8 hvQ hopsQ S5 Sk
      go_wp2_with fail
      refine (hcrash S8 0 rfl x.keep HX.out.k0 HX.out.k1 (by omega)).mono ?_
      rintro e w11 ⟨rfl, T11⟩
      have x11 := T11.cell 2 rfl 1 rfl
      go_wp2_with fail
      refine (rdcrash_any (by exact T11.front 1 rfl) x.keep (by omega)).mono ?_
      rintro e w12 ⟨rfl, T12⟩
      obtain ⟨d2, hd2⟩ : ∃ d2, d8.crash x.keep = d2 := ⟨_, rfl⟩
      obtain ⟨r2, hr2⟩ : ∃ r2, r8.crash x.keep = r2 := ⟨_, rfl⟩
      rw [hr2] at T12 QR
      have T12' : St w w12 [diskT pd d2, rdT pr r2, cellsT wr.heap.size 43 [.int .i64 x.kind, .int .i64 x.keep, .slice x.a x.n x.c]] := by rw [← hd2]; exact T12.front 1 rfl
      rw [hd2] at QR QW QL QS QP QO QU QJ
      clear T11 T12 hd2 hr2 S8
      go_wp2_with fail
      refine (jOpenI T12' G (by have := HQ.out; omega) QL.out (by omega) (by rw [QW.out]; simp) (by rw [QS.out]; omega) QP.out QO.out QU.out).mono ?_
      rintro e w13 ⟨gj9, gl9, gs9, a13, c13, b13, m13, kk13, zs, rfl, -, -, -, hzs, hmz, hzd, T13⟩
      obtain ⟨r9, RR, C9⟩ := rjOpenI (w := w13) (by exact T13.front 6 rfl) G (by have := HQ.out; omega) (by omega) QR.out QW.out QL.out (by rw [QS.out]; omega) QP.out QJ.out QO.out
      have HRR := hid RR
      have HC9 := hid C9
      clear RR C9 T13 T12'
      go_wp2_with fail
      refine HC9.out.mono ?_
      rintro e w14 ⟨gm9, gt9, gk9, aP, cP, aO, cO, aL9, cL9, ys9, ws, rfl, ⟨hp1, hp2, hp3⟩, ⟨hws, hwd⟩, ⟨hys, hyd⟩, T14⟩
      have hwm : ws.length = m13 := by rw [← hmz]; have h1 := congrArg List.length hzs; have h2 := congrArg List.length hws; rw [List.length_map] at h1 h2; omega
      subst hwm
      have hwn : ws.length ≤ 65536 := by
        have h1 := congrArg List.length hws
        rw [List.length_map] at h1
        have h2 := QJ.out.few
        omega
      have HZd := hid hzd
      have HWd := hid hwd
      have HYd := hid hyd
      have HYs := hid hys
      have tq : (zs.map BS.l == ws.map BS.l) = true := by rw [hzs, hws]; simp
      have TQ := hid tq
      have A1 : Hid (At w14 a13 (picL o)) := Reads.ro 11 rfl w14 [] T14
      have A2 : Hid (At w14 aP (picL o)) := Reads.ro 5 rfl w14 [] T14
      clear HC9 hzs hws hzd hwd hyd hys hmz tq
      go_wp2_with fail
      refine (bytes_any a13 aP (picL o) (picL o) _ _ c13 cP _ rfl rfl (Nat.le_trans hp1 hp2) (Nat.le_trans hp1 hp2) A1.out A2.out).mono ?_
      rintro e wb ⟨rfl, nz, rfl⟩
      rw [show (picL o == picL o) = true by simp]
      have T15 := T14.drewN nz
      clear T14 A1 A2
      go_wp2_with fail
      refine (same_rows2 (by exact T15) (k := 12) (j := 6) rfl HZd.out rfl HWd.out (by omega) (by omega)).mono ?_
      rintro e w15 ⟨rfl, T16⟩
      rw [TQ.out]
      clear hp1 hp2 hp3
      obtain ⟨d9, hd9⟩ : ∃ d9, jDisk d2 q sz = d9 := ⟨_, rfl⟩
      obtain ⟨o9, ho9⟩ : ∃ o9, o = o9 := ⟨_, rfl⟩
      obtain ⟨ops9, hops9⟩ : ∃ ops9, opsQ = ops9 := ⟨_, rfl⟩
      obtain ⟨v9, hv9⟩ : ∃ v9, vQ = v9 := ⟨_, rfl⟩
      rw [hd9] at HRR QJ T16
      have AS9 : Hid (ActS N q sz (k + 1) v9 d9 o9 ops9 r9 ys9) := by
        rw [← ho9, ← hops9, ← hv9]
        exact ⟨QJ.out.mono (by omega), HRR.out, HYs.out, HYd.out⟩
      have S9 : St w w15 (jL gj9 gl9 gs9 pd q sz v9 d9 o9 ops9 (rjL gm9 gk9 gt9 pr q sz r9 o9 (jCnt o9 ops9) aL9 cL9 ys9 [cellsT wr.heap.size 43 [.int .i64 x.kind, .int .i64 x.keep, .slice x.a x.n x.c]])) := by
        rw [← ho9, ← hops9, ← hv9]
        exact ((((((((((T16.front 13 rfl).front 5 rfl).front 5 rfl).front 5 rfl).front 5 rfl).front 5 rfl).front 11 rfl).front 11 rfl).front 11 rfl).front 11 rfl).take 10
      clear T15 T16 QR QW QL QS QP QO QU QJ HRR HYs HYd hd9 ho9 hops9 hv9
      have F9 := AS9.out.facts G
      have hsz9 := G.sum
      have HSm9 := hid F9.small
      have HFl9 := hid F9.flat
      have HBy9 := hid F9.bytes
      have HBl9 := hid F9.blen
      have HRl9 := hid F9.b
      have HHd9 := hid AS9.out.hd
      have hle9 := F9.le
      have hps9 := F9.ps
      have hwl9 := F9.wl
      have hcn9 := F9.cnt
      clear F9
      have z1 : (jCnt o9 ops9 != jCnt o9 ops9) = false := by simp
      go_wp2_with fail
      refine wp_region_held_drew (S := (fun w' => w'.cell? ⟨gm9, 2, none⟩ = some (.int .i64 (jCnt o9 ops9)) ∧ w'.cell? ⟨wr.heap.size, 2, none⟩ = some (.slice x.a x.n x.c))) (by kernel_rfl) (by exact ⟨S9.drew.cell 4 rfl 2 rfl, S9.drew.cell 9 rfl 2 rfl⟩) (fun hHeld => ?_)
      change wpAnyH _ _ _ _ _ 28 (Array.replicate 28 false) _ _
      refine wpAnyH_take (i := 0) (v := ?v131) (ops_at rfl) (by kernel_rfl) (by kernel_rfl) (by kernel_rfl) (fun _ _ _ h => h) (Or.inl ⟨by rfl, ?hy131⟩) (by assumption) ?rest131
      case hy131 => intro w' hSw; (try dsimp only at hSw); go_simp; try with_reducible rfl
      try simp only [Act.put, List.setIfInBounds_toArray, List.set_cons_zero, List.set_cons_succ]
      refine wpAnyH_take (i := 2) (v := ?v132) (ops_at rfl) (by kernel_rfl) (by kernel_rfl) (by kernel_rfl) (fun _ _ _ h => h) (Or.inl ⟨by rfl, ?hy132⟩) (by assumption) ?rest132
      case hy132 => intro w' hSw; (try dsimp only at hSw); go_simp; try with_reducible rfl
      try simp only [Act.put, List.setIfInBounds_toArray, List.set_cons_zero, List.set_cons_succ]
      refine wpAnyH_take (i := 3) (v := ?v133) (ops_at rfl) (by kernel_rfl) (by kernel_rfl) (by kernel_rfl) (fun _ _ _ h => h) (Or.inl ⟨by rfl, ?hy133⟩) (by assumption) ?rest133
      case hy133 => intro w' hSw; (try dsimp only at hSw); go_simp; try with_reducible rfl
      try simp only [Act.put, List.setIfInBounds_toArray, List.set_cons_zero, List.set_cons_succ]
      refine wpAnyH_take (i := 4) (v := ?v134) (ops_at rfl) (by kernel_rfl) (by kernel_rfl) (by kernel_rfl) (fun _ _ _ h => h) (Or.inl ⟨by rfl, ?hy134⟩) (by assumption) ?rest134
      case hy134 => intro w' hSw; (try dsimp only at hSw); go_simp; try with_reducible rfl
      try simp only [Act.put, List.setIfInBounds_toArray, List.set_cons_zero, List.set_cons_succ]
      refine wpAnyH_take (i := 5) (v := ?v135) (ops_at rfl) (by kernel_rfl) (by kernel_rfl) (by kernel_rfl) (fun _ _ _ h => h) (Or.inl ⟨by rfl, ?hy135⟩) (by assumption) ?rest135
      case hy135 => intro w' hSw; (try dsimp only at hSw); go_simp; try with_reducible rfl
      try simp only [Act.put, List.setIfInBounds_toArray, List.set_cons_zero, List.set_cons_succ]
      refine wpAnyH_ready (rs := [1]) (by kernel_rfl) (by simp) ?_
      refine AllReadyH.cons (ops_at rfl) (fun K hK => ?_) AllReadyH.nil
      go_simp
      refine (jlCount S9.drew).mono ?_
      rintro e w21 ⟨rfl, rfl⟩
      refine hK.out _ _ (by exact ⟨S9.drew.cell 4 rfl 2 rfl, S9.drew.cell 9 rfl 2 rfl⟩) (fun hHeld => ?_)
      clear hK K
      try simp only [Act.put, List.setIfInBounds_toArray, List.set_cons_zero, List.set_cons_succ]
      refine wpAnyH_take (i := 6) (v := ?v137) (ops_at rfl) (by kernel_rfl) (by kernel_rfl) (by kernel_rfl) (fun _ _ _ h => h) (Or.inl ⟨by rfl, ?hy137⟩) (by assumption) ?rest137
      case hy137 => intro w' hSw; (try dsimp only at hSw); go_simp; try with_reducible rfl
      try simp only [Act.put, List.setIfInBounds_toArray, List.set_cons_zero, List.set_cons_succ]
      refine wpAnyH_take (i := 7) (v := ?v138) (ops_at rfl) (by kernel_rfl) (by kernel_rfl) (by kernel_rfl) (fun _ _ _ h => h) (Or.inl ⟨by rfl, ?hy138⟩) (by assumption) ?rest138
      case hy138 => intro w' hSw; (try dsimp only at hSw); go_simp; try with_reducible rfl
      try simp only [Act.put, List.setIfInBounds_toArray, List.set_cons_zero, List.set_cons_succ]
      refine wpAnyH_take (i := 8) (v := ?v139) (ops_at rfl) (by kernel_rfl) (by kernel_rfl) (by kernel_rfl) (fun _ _ _ h => h) (Or.inl ⟨by rfl, ?hy139⟩) (by assumption) ?rest139
      case hy139 => intro w' hSw; (try dsimp only at hSw); go_simp; try with_reducible rfl
      try simp only [Act.put, List.setIfInBounds_toArray, List.set_cons_zero, List.set_cons_succ]
      refine wpAnyH_take (i := 10) (v := ?v140) (ops_at rfl) (by kernel_rfl) (by kernel_rfl) (by kernel_rfl) (fun _ _ _ h => h) (Or.inl ⟨by rfl, ?hy140⟩) (by assumption) ?rest140
      case hy140 => intro w' hSw; (try dsimp only at hSw); go_simp; try with_reducible rfl
      try simp only [Act.put, List.setIfInBounds_toArray, List.set_cons_zero, List.set_cons_succ]
      refine wpAnyH_ready (rs := [9]) (by kernel_rfl) (by simp) ?_
      refine AllReadyH.cons (ops_at rfl) (fun K hK => ?_) AllReadyH.nil
      go_simp
      refine (hbytes (by exact S9.drew) 2 rfl (by omega) N HBl9.out).mono ?_
      rintro e w23 ⟨a23, c23, rfl, T3, -⟩
      refine hK.out _ _ (by exact ⟨T3.cell 4 rfl 2 rfl, T3.cell 9 rfl 2 rfl⟩) (fun hHeld => ?_)
      clear hK K
      try simp only [Act.put, List.setIfInBounds_toArray, List.set_cons_zero, List.set_cons_succ]
      refine wpAnyH_ready (rs := [11]) (by kernel_rfl) (by simp) ?_
      refine AllReadyH.cons (ops_at rfl) (fun K hK => ?_) AllReadyH.nil
      go_simp
      refine (rdbytes_any (by exact T3.front 6 rfl) N HRl9.out (by omega)).mono ?_
      rintro e w24 ⟨a24, c24, rfl, T4, -⟩
      refine hK.out _ _ (by exact ⟨T4.cell 6 rfl 2 rfl, T4.cell 10 rfl 2 rfl⟩) (fun hHeld => ?_)
      clear hK K
      try simp only [Act.put, List.setIfInBounds_toArray, List.set_cons_zero, List.set_cons_succ]
      refine wpAnyH_ready (rs := [12]) (by kernel_rfl) (by simp) ?_
      refine AllReadyH.cons (ops_at rfl) (fun K hK => ?_) AllReadyH.nil
      go_simp
      refine (hcmp T4 true a23 a24 d9.bytes r9.bytes N N c23 c24 (by rw [HBy9.out]; simp) HBl9.out (by rw [HBy9.out]; exact HBl9.out) (by unfold maxLen; omega) (by unfold maxLen; omega) (by exact T4.at 11 rfl) (by exact T4.at 0 rfl)).mono ?_
      rintro e w25 ⟨rfl, T5, -⟩
      have T5' : St w w25 (jL gj9 gl9 gs9 pd q sz v9 d9 o9 ops9 (rdT pr r9 :: cellsT gm9 51 (rjC (.pointer (some ⟨gt9, 0, none⟩)) (.pointer (some ⟨gk9, 0, none⟩)) (jCnt o9 ops9) (jAge o9)) :: cellsT gk9 90 (rlogC pr (2 * q) sz (.slice aL9 ys9.length cL9)) :: rowsT eS bsRefs (.slice aL9 ys9.length cL9) ys9 :: cellsT gt9 108 (rslotC pr 0 q) :: cellsT wr.heap.size 43 [.int .i64 x.kind, .int .i64 x.keep, .slice x.a x.n x.c] :: [])) := (((((T5.drop 1).take 10).front 4 rfl).front 4 rfl).front 4 rfl).front 4 rfl
      clear T3 T4 T5
      refine hK.out _ _ (by exact ⟨T5'.cell 5 rfl 2 rfl, T5'.cell 9 rfl 2 rfl⟩) (fun hHeld => ?_)
      clear hK K
      try simp only [Act.put, List.setIfInBounds_toArray, List.set_cons_zero, List.set_cons_succ]
      refine wpAnyH_take (i := 13) (v := ?v144) (ops_at rfl) (by kernel_rfl) (by kernel_rfl) (by kernel_rfl) (fun _ _ _ h => h) (Or.inl ⟨by rfl, ?hy144⟩) (by assumption) ?rest144
      case hy144 => intro w' hSw; (try dsimp only at hSw); go_simp; try with_reducible rfl
      try simp only [Act.put, List.setIfInBounds_toArray, List.set_cons_zero, List.set_cons_succ]
      refine wpAnyH_take (i := 14) (v := ?v145) (ops_at rfl) (by kernel_rfl) (by kernel_rfl) (by kernel_rfl) (fun _ _ _ h => h) (Or.inl ⟨by rfl, ?hy145⟩) (by assumption) ?rest145
      case hy145 => intro w' hSw; (try dsimp only at hSw); go_simp; try with_reducible rfl
      try simp only [Act.put, List.setIfInBounds_toArray, List.set_cons_zero, List.set_cons_succ]
      refine wpAnyH_take (i := 15) (v := ?v146) (ops_at rfl) (by kernel_rfl) (by kernel_rfl) (by kernel_rfl) (fun _ _ _ h => h) (Or.inl ⟨by rfl, ?hy146⟩) (by assumption) ?rest146
      case hy146 => intro w' hSw; (try dsimp only at hSw); go_simp; try with_reducible rfl
      try simp only [Act.put, List.setIfInBounds_toArray, List.set_cons_zero, List.set_cons_succ]
      refine wpAnyH_take (i := 16) (v := ?v147) (ops_at rfl) (by kernel_rfl) (by kernel_rfl) (by kernel_rfl) (fun _ _ _ h => h) (Or.inl ⟨by rfl, ?hy147⟩) (by assumption) ?rest147
      case hy147 => intro w' hSw; (try dsimp only at hSw); go_simp; try with_reducible rfl
      try simp only [Act.put, List.setIfInBounds_toArray, List.set_cons_zero, List.set_cons_succ]
      refine wpAnyH_take (i := 17) (v := ?v148) (ops_at rfl) (by kernel_rfl) (by kernel_rfl) (by kernel_rfl) (fun _ _ _ h => h) (Or.inl ⟨by rfl, ?hy148⟩) (by assumption) ?rest148
      case hy148 => intro w' hSw; (try dsimp only at hSw); go_simp; try with_reducible rfl
      try simp only [Act.put, List.setIfInBounds_toArray, List.set_cons_zero, List.set_cons_succ]
      refine wpAnyH_take (i := 18) (v := ?v149) (ops_at rfl) (by kernel_rfl) (by kernel_rfl) (by kernel_rfl) (fun _ _ _ h => h) (Or.inl ⟨by rfl, ?hy149⟩) (by assumption) ?rest149
      case hy149 => intro w' hSw; (try dsimp only at hSw); go_simp; try with_reducible rfl
      try simp only [Act.put, List.setIfInBounds_toArray, List.set_cons_zero, List.set_cons_succ]
      refine wpAnyH_take (i := 19) (v := ?v150) (ops_at rfl) (by kernel_rfl) (by kernel_rfl) (by kernel_rfl) (fun _ _ _ h => h) (Or.inl ⟨by rfl, ?hy150⟩) (by assumption) ?rest150
      case hy150 => intro w' hSw; (try dsimp only at hSw); go_simp; try with_reducible rfl
      try simp only [Act.put, List.setIfInBounds_toArray, List.set_cons_zero, List.set_cons_succ]
      refine wpAnyH_take (i := 21) (v := ?v151) (ops_at rfl) (by kernel_rfl) (by kernel_rfl) (by kernel_rfl) (fun _ _ _ h => h) (Or.inl ⟨by rfl, ?hy151⟩) (by assumption) ?rest151
      case hy151 => intro w' hSw; (try dsimp only at hSw); go_simp; try with_reducible rfl
      try simp only [Act.put, List.setIfInBounds_toArray, List.set_cons_zero, List.set_cons_succ]
      refine wpAnyH_take (i := 22) (v := ?v152) (ops_at rfl) (by kernel_rfl) (by kernel_rfl) (by kernel_rfl) (fun _ _ _ h => h) (Or.inl ⟨by rfl, ?hy152⟩) (by assumption) ?rest152
      case hy152 => intro w' hSw; (try dsimp only at hSw); go_simp; try with_reducible rfl
      try simp only [Act.put, List.setIfInBounds_toArray, List.set_cons_zero, List.set_cons_succ]
      refine wpAnyH_take (i := 23) (v := ?v153) (ops_at rfl) (by kernel_rfl) (by kernel_rfl) (by kernel_rfl) (fun _ _ _ h => h) (Or.inl ⟨by rfl, ?hy153⟩) (by assumption) ?rest153
      case hy153 => intro w' hSw; (try dsimp only at hSw); go_simp; try with_reducible rfl
      try simp only [Act.put, List.setIfInBounds_toArray, List.set_cons_zero, List.set_cons_succ]
      refine wpAnyH_take (i := 24) (v := ?v154) (ops_at rfl) (by kernel_rfl) (by kernel_rfl) (by kernel_rfl) (fun _ _ _ h => h) (Or.inl ⟨by rfl, ?hy154⟩) (by assumption) ?rest154
      case hy154 => intro w' hSw; (try dsimp only at hSw); go_simp; try with_reducible rfl
      try simp only [Act.put, List.setIfInBounds_toArray, List.set_cons_zero, List.set_cons_succ]
      refine wpAnyH_ready (rs := [20]) (by kernel_rfl) (by simp) ?_
      refine AllReadyH.cons (ops_at rfl) (fun K hK => ?_) AllReadyH.nil
      go_simp
      refine (jlRoom T5' (x.n : Int) (by omega) (by omega) (by omega)).mono ?_
      rintro e w26 ⟨rfl, T6, -⟩
      refine hK.out _ _ (by exact ⟨T6.cell 5 rfl 2 rfl, T6.cell 9 rfl 2 rfl⟩) (fun hHeld => ?_)
      clear hK K
      try simp only [Act.put, List.setIfInBounds_toArray, List.set_cons_zero, List.set_cons_succ]
      refine wpAnyH_ready (rs := [25]) (by kernel_rfl) (by simp) ?_
      refine AllReadyH.cons (ops_at rfl) (fun K hK => ?_) AllReadyH.nil
      go_simp
      have T7 : St w w26 (cellsT gm9 51 (rjC (.pointer (some ⟨gt9, 0, none⟩)) (.pointer (some ⟨gk9, 0, none⟩)) (jCnt o9 ops9) (jAge o9)) :: cellsT gk9 90 (rlogC pr (2 * q) sz (.slice aL9 ys9.length cL9)) :: rdT pr r9 :: rowsT eS bsRefs (.slice aL9 ys9.length cL9) ys9 :: jL gj9 gl9 gs9 pd q sz v9 d9 o9 ops9 [cellsT gt9 108 (rslotC pr 0 q), cellsT wr.heap.size 43 [.int .i64 x.kind, .int .i64 x.keep, .slice x.a x.n x.c]]) := (((T6.front 7 rfl).front 5 rfl).front 7 rfl).front 7 rfl
      clear T5' T6
      refine (rjRoom_any T7 x.n v9 (by unfold maxLen; omega) HHd9.out HSm9.out HFl9.out hle9 (by omega)).mono ?_
      rintro e w27 ⟨rfl, T8⟩
      refine hK.out _ _ (by exact ⟨T8.cell 0 rfl 2 rfl, T8.cell 9 rfl 2 rfl⟩) (fun hHeld => ?_)
      clear hK K
      try simp only [Act.put, List.setIfInBounds_toArray, List.set_cons_zero, List.set_cons_succ]
      have z2 : (jRoom sz v9 (jCnt o9 ops9) (x.n : Int) != jRoom sz v9 (jCnt o9 ops9) (x.n : Int)) = false := by simp
      refine wpAnyH_take (i := 26) (v := ?v157) (ops_at rfl) (by kernel_rfl) (by kernel_rfl) (by kernel_rfl) (fun _ _ _ h => h) (Or.inl ⟨by rfl, ?hy157⟩) (by assumption) ?rest157
      case hy157 => intro w' hSw; (try dsimp only at hSw); go_simp; try with_reducible rfl
      try simp only [Act.put, List.setIfInBounds_toArray, List.set_cons_zero, List.set_cons_succ]
      refine wpAnyH_take (i := 27) (v := ?v158) (ops_at rfl) (by kernel_rfl) (by kernel_rfl) (by kernel_rfl) (fun _ _ _ h => h) (Or.inl ⟨by rfl, ?hy158⟩) (by assumption) ?rest158
      case hy158 => intro w' hSw; (try dsimp only at hSw); go_simp; try with_reducible rfl
      try simp only [Act.put, List.setIfInBounds_toArray, List.set_cons_zero, List.set_cons_succ]
      refine wpAnyH_done (by kernel_rfl) ?_ _
      go_wp2
      go_roundw
      case rel => exact ⟨k + 1, v9, gj9, gl9, gs9, d9, o9, ops9, gm9, gk9, gt9, r9, aL9, cL9, ys9, by omega, rfl, rfl, by go_num, AS9.out, ((((T8.front 7 rfl).front 7 rfl).front 7 rfl).front 7 rfl).take 9⟩
      case measure => simp [intOf]; omega
    have q3 : (x.kind == 3) = false := by simpa using hk3
    clear hk0 hk1 hk2 hk3
    obtain ⟨gj9, hgj⟩ : ∃ g, gj = g := ⟨_, rfl⟩
    obtain ⟨gl9, hgl⟩ : ∃ g, gl = g := ⟨_, rfl⟩
    obtain ⟨gs9, hgs⟩ : ∃ g, gs = g := ⟨_, rfl⟩
    obtain ⟨gm9, hgm⟩ : ∃ g, gm = g := ⟨_, rfl⟩
    obtain ⟨gk9, hgk⟩ : ∃ g, gk = g := ⟨_, rfl⟩
    obtain ⟨gt9, hgt⟩ : ∃ g, gt = g := ⟨_, rfl⟩
    obtain ⟨o9, ho9⟩ : ∃ o9, o = o9 := ⟨_, rfl⟩
    obtain ⟨ops9, hops9⟩ : ∃ g, ops = g := ⟨_, rfl⟩
    obtain ⟨d9, hd9⟩ : ∃ g, d = g := ⟨_, rfl⟩
    obtain ⟨r9, hr9⟩ : ∃ g, r = g := ⟨_, rfl⟩
    obtain ⟨v9, hv9⟩ : ∃ g, u = g := ⟨_, rfl⟩
    obtain ⟨aL9, haL9⟩ : ∃ g, aL = g := ⟨_, rfl⟩
    obtain ⟨cL9, hcL9⟩ : ∃ g, cL = g := ⟨_, rfl⟩
    obtain ⟨ys9, hys9⟩ : ∃ g, xs = g := ⟨_, rfl⟩
    have AS9 : Hid (ActS N q sz (k + 1) v9 d9 o9 ops9 r9 ys9) := by
      rw [← ho9, ← hops9, ← hd9, ← hr9, ← hv9, ← hys9]
      exact ⟨AS.out.inv.mono (by omega), AS.out.rel, AS.out.rows, AS.out.hd⟩
    have S9 : St w (wr.alloc (.cells #[.int .i64 x.kind, .int .i64 x.keep, .slice x.a x.n x.c] 43)) (jL gj9 gl9 gs9 pd q sz v9 d9 o9 ops9 (rjL gm9 gk9 gt9 pr q sz r9 o9 (jCnt o9 ops9) aL9 cL9 ys9 [cellsT wr.heap.size 43 [.int .i64 x.kind, .int .i64 x.keep, .slice x.a x.n x.c]])) := by
      rw [← ho9, ← hgj, ← hgl, ← hgs, ← hgm, ← hgk, ← hgt, ← hops9, ← hd9, ← hr9, ← hv9, ← haL9, ← hcL9, ← hys9]
      exact S5
    rw [hgj, hgm]
    clear hgj hgl hgs hgm hgk hgt ho9 hops9 hd9 hr9 hv9 haL9 hcL9 hys9 S5 Sk
    have F9 := AS9.out.facts G
    have hsz9 := G.sum
    have HSm9 := hid F9.small
    have HFl9 := hid F9.flat
    have HBy9 := hid F9.bytes
    have HBl9 := hid F9.blen
    have HRl9 := hid F9.b
    have HHd9 := hid AS9.out.hd
    have hle9 := F9.le
    have hps9 := F9.ps
    have hwl9 := F9.wl
    have hcn9 := F9.cnt
    clear F9
    have z1 : (jCnt o9 ops9 != jCnt o9 ops9) = false := by simp
    go_wp2_with fail
    refine wp_region_held_drew (S := (fun w' => w'.cell? ⟨gm9, 2, none⟩ = some (.int .i64 (jCnt o9 ops9)) ∧ w'.cell? ⟨wr.heap.size, 2, none⟩ = some (.slice x.a x.n x.c))) (by kernel_rfl) (by exact ⟨S9.drew.cell 4 rfl 2 rfl, S9.drew.cell 9 rfl 2 rfl⟩) (fun hHeld => ?_)
    change wpAnyH _ _ _ _ _ 28 (Array.replicate 28 false) _ _
    refine wpAnyH_take (i := 0) (v := ?v159) (ops_at rfl) (by kernel_rfl) (by kernel_rfl) (by kernel_rfl) (fun _ _ _ h => h) (Or.inl ⟨by rfl, ?hy159⟩) (by assumption) ?rest159
    case hy159 => intro w' hSw; (try dsimp only at hSw); go_simp; try with_reducible rfl
    try simp only [Act.put, List.setIfInBounds_toArray, List.set_cons_zero, List.set_cons_succ]
    refine wpAnyH_take (i := 2) (v := ?v160) (ops_at rfl) (by kernel_rfl) (by kernel_rfl) (by kernel_rfl) (fun _ _ _ h => h) (Or.inl ⟨by rfl, ?hy160⟩) (by assumption) ?rest160
    case hy160 => intro w' hSw; (try dsimp only at hSw); go_simp; try with_reducible rfl
    try simp only [Act.put, List.setIfInBounds_toArray, List.set_cons_zero, List.set_cons_succ]
    refine wpAnyH_take (i := 3) (v := ?v161) (ops_at rfl) (by kernel_rfl) (by kernel_rfl) (by kernel_rfl) (fun _ _ _ h => h) (Or.inl ⟨by rfl, ?hy161⟩) (by assumption) ?rest161
    case hy161 => intro w' hSw; (try dsimp only at hSw); go_simp; try with_reducible rfl
    try simp only [Act.put, List.setIfInBounds_toArray, List.set_cons_zero, List.set_cons_succ]
    refine wpAnyH_take (i := 4) (v := ?v162) (ops_at rfl) (by kernel_rfl) (by kernel_rfl) (by kernel_rfl) (fun _ _ _ h => h) (Or.inl ⟨by rfl, ?hy162⟩) (by assumption) ?rest162
    case hy162 => intro w' hSw; (try dsimp only at hSw); go_simp; try with_reducible rfl
    try simp only [Act.put, List.setIfInBounds_toArray, List.set_cons_zero, List.set_cons_succ]
    refine wpAnyH_take (i := 5) (v := ?v163) (ops_at rfl) (by kernel_rfl) (by kernel_rfl) (by kernel_rfl) (fun _ _ _ h => h) (Or.inl ⟨by rfl, ?hy163⟩) (by assumption) ?rest163
    case hy163 => intro w' hSw; (try dsimp only at hSw); go_simp; try with_reducible rfl
    try simp only [Act.put, List.setIfInBounds_toArray, List.set_cons_zero, List.set_cons_succ]
    refine wpAnyH_ready (rs := [1]) (by kernel_rfl) (by simp) ?_
    refine AllReadyH.cons (ops_at rfl) (fun K hK => ?_) AllReadyH.nil
    go_simp
    refine (jlCount S9.drew).mono ?_
    rintro e w21 ⟨rfl, rfl⟩
    refine hK.out _ _ (by exact ⟨S9.drew.cell 4 rfl 2 rfl, S9.drew.cell 9 rfl 2 rfl⟩) (fun hHeld => ?_)
    clear hK K
    try simp only [Act.put, List.setIfInBounds_toArray, List.set_cons_zero, List.set_cons_succ]
    refine wpAnyH_take (i := 6) (v := ?v165) (ops_at rfl) (by kernel_rfl) (by kernel_rfl) (by kernel_rfl) (fun _ _ _ h => h) (Or.inl ⟨by rfl, ?hy165⟩) (by assumption) ?rest165
    case hy165 => intro w' hSw; (try dsimp only at hSw); go_simp; try with_reducible rfl
    try simp only [Act.put, List.setIfInBounds_toArray, List.set_cons_zero, List.set_cons_succ]
    refine wpAnyH_take (i := 7) (v := ?v166) (ops_at rfl) (by kernel_rfl) (by kernel_rfl) (by kernel_rfl) (fun _ _ _ h => h) (Or.inl ⟨by rfl, ?hy166⟩) (by assumption) ?rest166
    case hy166 => intro w' hSw; (try dsimp only at hSw); go_simp; try with_reducible rfl
    try simp only [Act.put, List.setIfInBounds_toArray, List.set_cons_zero, List.set_cons_succ]
    refine wpAnyH_take (i := 8) (v := ?v167) (ops_at rfl) (by kernel_rfl) (by kernel_rfl) (by kernel_rfl) (fun _ _ _ h => h) (Or.inl ⟨by rfl, ?hy167⟩) (by assumption) ?rest167
    case hy167 => intro w' hSw; (try dsimp only at hSw); go_simp; try with_reducible rfl
    try simp only [Act.put, List.setIfInBounds_toArray, List.set_cons_zero, List.set_cons_succ]
    refine wpAnyH_take (i := 10) (v := ?v168) (ops_at rfl) (by kernel_rfl) (by kernel_rfl) (by kernel_rfl) (fun _ _ _ h => h) (Or.inl ⟨by rfl, ?hy168⟩) (by assumption) ?rest168
    case hy168 => intro w' hSw; (try dsimp only at hSw); go_simp; try with_reducible rfl
    try simp only [Act.put, List.setIfInBounds_toArray, List.set_cons_zero, List.set_cons_succ]
    refine wpAnyH_ready (rs := [9]) (by kernel_rfl) (by simp) ?_
    refine AllReadyH.cons (ops_at rfl) (fun K hK => ?_) AllReadyH.nil
    go_simp
    refine (hbytes (by exact S9.drew) 2 rfl (by omega) N HBl9.out).mono ?_
    rintro e w23 ⟨a23, c23, rfl, T3, -⟩
    refine hK.out _ _ (by exact ⟨T3.cell 4 rfl 2 rfl, T3.cell 9 rfl 2 rfl⟩) (fun hHeld => ?_)
    clear hK K
    try simp only [Act.put, List.setIfInBounds_toArray, List.set_cons_zero, List.set_cons_succ]
    refine wpAnyH_ready (rs := [11]) (by kernel_rfl) (by simp) ?_
    refine AllReadyH.cons (ops_at rfl) (fun K hK => ?_) AllReadyH.nil
    go_simp
    refine (rdbytes_any (by exact T3.front 6 rfl) N HRl9.out (by omega)).mono ?_
    rintro e w24 ⟨a24, c24, rfl, T4, -⟩
    refine hK.out _ _ (by exact ⟨T4.cell 6 rfl 2 rfl, T4.cell 10 rfl 2 rfl⟩) (fun hHeld => ?_)
    clear hK K
    try simp only [Act.put, List.setIfInBounds_toArray, List.set_cons_zero, List.set_cons_succ]
    refine wpAnyH_ready (rs := [12]) (by kernel_rfl) (by simp) ?_
    refine AllReadyH.cons (ops_at rfl) (fun K hK => ?_) AllReadyH.nil
    go_simp
    refine (hcmp T4 true a23 a24 d9.bytes r9.bytes N N c23 c24 (by rw [HBy9.out]; simp) HBl9.out (by rw [HBy9.out]; exact HBl9.out) (by unfold maxLen; omega) (by unfold maxLen; omega) (by exact T4.at 11 rfl) (by exact T4.at 0 rfl)).mono ?_
    rintro e w25 ⟨rfl, T5, -⟩
    have T5' : St w w25 (jL gj9 gl9 gs9 pd q sz v9 d9 o9 ops9 (rdT pr r9 :: cellsT gm9 51 (rjC (.pointer (some ⟨gt9, 0, none⟩)) (.pointer (some ⟨gk9, 0, none⟩)) (jCnt o9 ops9) (jAge o9)) :: cellsT gk9 90 (rlogC pr (2 * q) sz (.slice aL9 ys9.length cL9)) :: rowsT eS bsRefs (.slice aL9 ys9.length cL9) ys9 :: cellsT gt9 108 (rslotC pr 0 q) :: cellsT wr.heap.size 43 [.int .i64 x.kind, .int .i64 x.keep, .slice x.a x.n x.c] :: [])) := (((((T5.drop 1).take 10).front 4 rfl).front 4 rfl).front 4 rfl).front 4 rfl
    clear T3 T4 T5
    refine hK.out _ _ (by exact ⟨T5'.cell 5 rfl 2 rfl, T5'.cell 9 rfl 2 rfl⟩) (fun hHeld => ?_)
    clear hK K
    try simp only [Act.put, List.setIfInBounds_toArray, List.set_cons_zero, List.set_cons_succ]
    refine wpAnyH_take (i := 13) (v := ?v172) (ops_at rfl) (by kernel_rfl) (by kernel_rfl) (by kernel_rfl) (fun _ _ _ h => h) (Or.inl ⟨by rfl, ?hy172⟩) (by assumption) ?rest172
    case hy172 => intro w' hSw; (try dsimp only at hSw); go_simp; try with_reducible rfl
    try simp only [Act.put, List.setIfInBounds_toArray, List.set_cons_zero, List.set_cons_succ]
    refine wpAnyH_take (i := 14) (v := ?v173) (ops_at rfl) (by kernel_rfl) (by kernel_rfl) (by kernel_rfl) (fun _ _ _ h => h) (Or.inl ⟨by rfl, ?hy173⟩) (by assumption) ?rest173
    case hy173 => intro w' hSw; (try dsimp only at hSw); go_simp; try with_reducible rfl
    try simp only [Act.put, List.setIfInBounds_toArray, List.set_cons_zero, List.set_cons_succ]
    refine wpAnyH_take (i := 15) (v := ?v174) (ops_at rfl) (by kernel_rfl) (by kernel_rfl) (by kernel_rfl) (fun _ _ _ h => h) (Or.inl ⟨by rfl, ?hy174⟩) (by assumption) ?rest174
    case hy174 => intro w' hSw; (try dsimp only at hSw); go_simp; try with_reducible rfl
    try simp only [Act.put, List.setIfInBounds_toArray, List.set_cons_zero, List.set_cons_succ]
    refine wpAnyH_take (i := 16) (v := ?v175) (ops_at rfl) (by kernel_rfl) (by kernel_rfl) (by kernel_rfl) (fun _ _ _ h => h) (Or.inl ⟨by rfl, ?hy175⟩) (by assumption) ?rest175
    case hy175 => intro w' hSw; (try dsimp only at hSw); go_simp; try with_reducible rfl
    try simp only [Act.put, List.setIfInBounds_toArray, List.set_cons_zero, List.set_cons_succ]
    refine wpAnyH_take (i := 17) (v := ?v176) (ops_at rfl) (by kernel_rfl) (by kernel_rfl) (by kernel_rfl) (fun _ _ _ h => h) (Or.inl ⟨by rfl, ?hy176⟩) (by assumption) ?rest176
    case hy176 => intro w' hSw; (try dsimp only at hSw); go_simp; try with_reducible rfl
    try simp only [Act.put, List.setIfInBounds_toArray, List.set_cons_zero, List.set_cons_succ]
    refine wpAnyH_take (i := 18) (v := ?v177) (ops_at rfl) (by kernel_rfl) (by kernel_rfl) (by kernel_rfl) (fun _ _ _ h => h) (Or.inl ⟨by rfl, ?hy177⟩) (by assumption) ?rest177
    case hy177 => intro w' hSw; (try dsimp only at hSw); go_simp; try with_reducible rfl
    try simp only [Act.put, List.setIfInBounds_toArray, List.set_cons_zero, List.set_cons_succ]
    refine wpAnyH_take (i := 19) (v := ?v178) (ops_at rfl) (by kernel_rfl) (by kernel_rfl) (by kernel_rfl) (fun _ _ _ h => h) (Or.inl ⟨by rfl, ?hy178⟩) (by assumption) ?rest178
    case hy178 => intro w' hSw; (try dsimp only at hSw); go_simp; try with_reducible rfl
    try simp only [Act.put, List.setIfInBounds_toArray, List.set_cons_zero, List.set_cons_succ]
    refine wpAnyH_take (i := 21) (v := ?v179) (ops_at rfl) (by kernel_rfl) (by kernel_rfl) (by kernel_rfl) (fun _ _ _ h => h) (Or.inl ⟨by rfl, ?hy179⟩) (by assumption) ?rest179
    case hy179 => intro w' hSw; (try dsimp only at hSw); go_simp; try with_reducible rfl
    try simp only [Act.put, List.setIfInBounds_toArray, List.set_cons_zero, List.set_cons_succ]
    refine wpAnyH_take (i := 22) (v := ?v180) (ops_at rfl) (by kernel_rfl) (by kernel_rfl) (by kernel_rfl) (fun _ _ _ h => h) (Or.inl ⟨by rfl, ?hy180⟩) (by assumption) ?rest180
    case hy180 => intro w' hSw; (try dsimp only at hSw); go_simp; try with_reducible rfl
    try simp only [Act.put, List.setIfInBounds_toArray, List.set_cons_zero, List.set_cons_succ]
    refine wpAnyH_take (i := 23) (v := ?v181) (ops_at rfl) (by kernel_rfl) (by kernel_rfl) (by kernel_rfl) (fun _ _ _ h => h) (Or.inl ⟨by rfl, ?hy181⟩) (by assumption) ?rest181
    case hy181 => intro w' hSw; (try dsimp only at hSw); go_simp; try with_reducible rfl
    try simp only [Act.put, List.setIfInBounds_toArray, List.set_cons_zero, List.set_cons_succ]
    refine wpAnyH_take (i := 24) (v := ?v182) (ops_at rfl) (by kernel_rfl) (by kernel_rfl) (by kernel_rfl) (fun _ _ _ h => h) (Or.inl ⟨by rfl, ?hy182⟩) (by assumption) ?rest182
    case hy182 => intro w' hSw; (try dsimp only at hSw); go_simp; try with_reducible rfl
    try simp only [Act.put, List.setIfInBounds_toArray, List.set_cons_zero, List.set_cons_succ]
    refine wpAnyH_ready (rs := [20]) (by kernel_rfl) (by simp) ?_
    refine AllReadyH.cons (ops_at rfl) (fun K hK => ?_) AllReadyH.nil
    go_simp
    refine (jlRoom T5' (x.n : Int) (by omega) (by omega) (by omega)).mono ?_
    rintro e w26 ⟨rfl, T6, -⟩
    refine hK.out _ _ (by exact ⟨T6.cell 5 rfl 2 rfl, T6.cell 9 rfl 2 rfl⟩) (fun hHeld => ?_)
    clear hK K
    try simp only [Act.put, List.setIfInBounds_toArray, List.set_cons_zero, List.set_cons_succ]
    refine wpAnyH_ready (rs := [25]) (by kernel_rfl) (by simp) ?_
    refine AllReadyH.cons (ops_at rfl) (fun K hK => ?_) AllReadyH.nil
    go_simp
    have T7 : St w w26 (cellsT gm9 51 (rjC (.pointer (some ⟨gt9, 0, none⟩)) (.pointer (some ⟨gk9, 0, none⟩)) (jCnt o9 ops9) (jAge o9)) :: cellsT gk9 90 (rlogC pr (2 * q) sz (.slice aL9 ys9.length cL9)) :: rdT pr r9 :: rowsT eS bsRefs (.slice aL9 ys9.length cL9) ys9 :: jL gj9 gl9 gs9 pd q sz v9 d9 o9 ops9 [cellsT gt9 108 (rslotC pr 0 q), cellsT wr.heap.size 43 [.int .i64 x.kind, .int .i64 x.keep, .slice x.a x.n x.c]]) := (((T6.front 7 rfl).front 5 rfl).front 7 rfl).front 7 rfl
    clear T5' T6
    refine (rjRoom_any T7 x.n v9 (by unfold maxLen; omega) HHd9.out HSm9.out HFl9.out hle9 (by omega)).mono ?_
    rintro e w27 ⟨rfl, T8⟩
    refine hK.out _ _ (by exact ⟨T8.cell 0 rfl 2 rfl, T8.cell 9 rfl 2 rfl⟩) (fun hHeld => ?_)
    clear hK K
    try simp only [Act.put, List.setIfInBounds_toArray, List.set_cons_zero, List.set_cons_succ]
    have z2 : (jRoom sz v9 (jCnt o9 ops9) (x.n : Int) != jRoom sz v9 (jCnt o9 ops9) (x.n : Int)) = false := by simp
    refine wpAnyH_take (i := 26) (v := ?v185) (ops_at rfl) (by kernel_rfl) (by kernel_rfl) (by kernel_rfl) (fun _ _ _ h => h) (Or.inl ⟨by rfl, ?hy185⟩) (by assumption) ?rest185
    case hy185 => intro w' hSw; (try dsimp only at hSw); go_simp; try with_reducible rfl
    try simp only [Act.put, List.setIfInBounds_toArray, List.set_cons_zero, List.set_cons_succ]
    refine wpAnyH_take (i := 27) (v := ?v186) (ops_at rfl) (by kernel_rfl) (by kernel_rfl) (by kernel_rfl) (fun _ _ _ h => h) (Or.inl ⟨by rfl, ?hy186⟩) (by assumption) ?rest186
    case hy186 => intro w' hSw; (try dsimp only at hSw); go_simp; try with_reducible rfl
    try simp only [Act.put, List.setIfInBounds_toArray, List.set_cons_zero, List.set_cons_succ]
    refine wpAnyH_done (by kernel_rfl) ?_ _
    go_wp2
    go_roundw
    case rel => exact ⟨k + 1, v9, gj9, gl9, gs9, d9, o9, ops9, gm9, gk9, gt9, r9, aL9, cL9, ys9, by omega, rfl, rfl, by go_num, AS9.out, ((((T8.front 7 rfl).front 7 rfl).front 7 rfl).front 7 rfl).take 9⟩
    case measure => simp [intOf]; omega
end Go.Proofs.Ytmfbbonppmhabaa
