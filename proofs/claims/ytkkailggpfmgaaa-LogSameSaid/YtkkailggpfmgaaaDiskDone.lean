/- The walks of done, Sync and Crash. -/
import Derived.Test.YtkkailggpfmgaaaDiskRead
namespace Go.Proofs.Ytkkailggpfmgaaa
set_option linter.unusedVariables false
set_option linter.unusedSimpArgs false
open Go.RowKit

theorem done_fin {w w1 : World} {B : Nat} {F : Nat → Prop} {g : Nat} {d : DSt} {gl : Nat} {vw : Value} {ws : List WR} (H : DiskIn w B F g d gl vw ws) (keep : Int) (ht : Touch (fun b => b = gl) w w1)
    (hr : w1.heap[gl]? = some (.cells ((dDone d.lasts keep d.waits).map bv).toArray 5 (0, 0))) :
    IsDisk (w1.setCell ⟨g, 1, none⟩ (.slice none 0 0)) B F (.pointer (some ⟨g, 0, none⟩)) (d.crash keep) ∧ Touch F w (w1.setCell ⟨g, 1, none⟩ (.slice none 0 0)) := by
  have hg := (H.low _ H.foot.1).2
  have hlen := dDone_len d.waits d.lasts keep H.fit
  have k1g : w1.heap[g]? = w.heap[g]? := ht.block g hg H.ne.1
  refine ⟨⟨g, gl, .slice none 0 0, [], rfl, ?_⟩, (ht.mono (fun x hx => by subst hx; exact H.foot.2.1)).setCell (.inl H.foot.1) _⟩
  refine ⟨?_, ?_, OwnG.nil _ _, rfl, fun k h => by simp at h, fun x hx => by simp [DSt.crash] at hx, by show 1 ≤ (dDone d.lasts keep d.waits).length ∧ (dDone d.lasts keep d.waits).length ≤ 65536; rw [hlen]; exact H.big, ⟨H.ne.1, by simp [Value.ownBlock], by simp [Value.ownBlock]⟩, ⟨H.foot.1, H.foot.2.1, fun b hb => by simp [Value.ownBlock] at hb⟩, ?_⟩
  · have := (heap_set3 (k1g.trans H.blk) (.slice none 0 0)).2.1
    have e : (d.crash keep).lasts.length = d.lasts.length := hlen
    rw [e]; exact this
  · rw [heap_setCell_other _ _ _ _ (Ne.symm H.ne.1)]; exact hr
  · intro b hb
    have := H.low b hb
    have := ht.size
    exact ⟨by omega, by simp; omega⟩

set_option maxRecDepth 10000 in
set_option maxHeartbeats 1600000 in
theorem done_any {w : World} {B : Nat} {F : Nat → Prop} {p : Value} {d : DSt} (h : IsDisk w B F p d) (keep : Int) (hk0 : -9223372036854775808 ≤ keep) (hk1 : keep ≤ 9223372036854775807) (hw : d.waits.length ≤ 1000000) :
    Calls Try.prog 51 #[p, .int .i64 keep] w fun e w' => e = .returned (.tuple #[]) ∧ IsDisk w' B F p (d.crash keep) ∧ Touch F w w' := by
  obtain ⟨g, gl, vw, ws, rfl, h⟩ := h
  obtain ⟨c0, c1, c2, cf⟩ := cells3 h.blk
  obtain ⟨av, cv, rfl, hcv, hcm, hnil, hat, hbl⟩ := h.wts.at eWok
  have HAT := hid hat
  have HBl := hid (fun x hx => by have := hbl x hx; intro e; exact h.ne.2.2 (by rw [this, e]) : ∀ x, av = some x → ¬ x.block = gl)
  have H := hid h
  have HLen := hid h.len
  have hbig := h.big
  have hg := (h.low _ h.foot.1).2
  have hgl := (h.low _ h.foot.2.1).2
  have hgne := h.ne.1
  have i0 := fun k i hi hk => idxW av ws.length cv hat.ok k i hi hk
  have hw' : ws.length ≤ 1000000 := by rw [h.len]; exact hw
  have HLas := hid h.las
  clear h hat hnil hbl hw
  generalize hn : ws.length = n at *
  have HNw := hid hn
  clear hn
  generalize hm : d.lasts.length = m at *
  have HM := hid hm
  clear hm
  go_enter Try.func51, Try.ntmps51
  go_wp2_with fail
  go_loopw [1, 12] (fun s q wr => ∃ k : Nat, k ≤ n ∧ s = .int .i64 (dKeep keep (d.waits.take k)) ∧ -9223372036854775808 ≤ dKeep keep (d.waits.take k) ∧ dKeep keep (d.waits.take k) ≤ 9223372036854775807 ∧ q = .int .i64 k ∧ wr.heap[gl]? = some (.cells ((dDone d.lasts keep (d.waits.take k)).map bv).toArray 5 (0, 0)) ∧ Touch (fun b => b = gl) w wr) (fun _ q _ => n - (intOf q).toNat)
  case atStart => exact ⟨0, Nat.zero_le _, rfl, hk0, hk1, rfl, HLas.out, Touch.refl _ _⟩
  case round =>
    obtain ⟨k, hk, rfl, hkp0, hkp1, rfl, hrow, hbel⟩ := hrel
    have HB := hid hbel
    have HRo := hid hrow
    have hsz := hbel.size
    have kg := hbel.block g hg hgne
    have c0' : wr.cell? ⟨g, 0, none⟩ = some (.slice (some ⟨gl, 0, none⟩) m m) := (World.cell?_of_block (w := w) (a := ⟨g, 0, none⟩) kg).trans c0
    have c1' : wr.cell? ⟨g, 1, none⟩ = some (.slice av n cv) := (World.cell?_of_block (w := w) (a := ⟨g, 1, none⟩) kg).trans c1
    have cf' : ∀ j, wr.frozen? ⟨g, j, none⟩ = false := fun j => (World.frozen?_of_block (w := w) (a := ⟨g, j, none⟩) kg).trans (cf j)
    clear hbel hrow kg
    by_cases hlt : k < n
    · have hkw : k < ws.length := by rw [HNw.out]; exact hlt
      have hkd : k < d.waits.length := by rw [← HLen.out]; exact hlt
      have i1 := i0 k k rfl hlt
      obtain ⟨x0, x1⟩ := (HAT.out.touch eWok HB.out HBl.out).cellW' hkw
      obtain ⟨e1, e2, e3, e4, e5, e6, e7⟩ := H.out.wr hkw hkd
      have HT := hid (dDone_take (l := d.lasts) (keep := keep) hkd)
      have HK := hid (dKeep_take (keep := keep) hkd)
      have HE5 := hid (e5.touch HB.out (fun x hx => (e7 x hx).2.2.1))
      have hdl := dDone_len (d.waits.take k) d.lasts keep (fun x hx => H.out.fit x (List.mem_of_mem_take hx))
      rw [HM.out] at hdl e6
      rw [← e1] at HT e6
      have hatm : ws[k].at_ ≤ m := by omega
      have HX : Hid (d.waits[k].2.length = ws[k].n ∧ ws[k].at_ + ws[k].n ≤ m ∧ ws[k].n ≤ ws[k].c) := ⟨e2.symm, by omega, e3⟩
      have hxc : ws[k].n ≤ ws[k].c := e3
      have hglt : gl < wr.heap.size := by omega
      have c0a : ∀ ob : Obj, (wr.alloc ob).cell? ⟨g, 0, none⟩ = some (.slice (some ⟨gl, 0, none⟩) m m) := fun ob => (World.cell?_of_block (w := wr) (a := ⟨g, 0, none⟩) (Below.heap_alloc _ _ _ (by show g < _; omega))).trans c0'
      clear i0 e1 e2 e3 e4 e5 e6 e7
      generalize ws[k] = x at *
      generalize d.waits[k].2 = b at *
      generalize dDone d.lasts keep (d.waits.take k) = o at *
      generalize dKeep keep (d.waits.take k) = kp at *
      generalize adr av (k * 2) = A at *
      have HDL := hid hdl
      clear hdl
      have HG : Hid (∀ ob : Obj, (wr.alloc ob).heap[gl]? = some (.cells (o.map bv).toArray 5 (0, 0))) := fun ob => (Below.heap_alloc _ _ _ hglt).trans HRo.out
      have HP : Hid (∀ (c : Nat) (ob : Obj), c ≤ x.n → 0 < ((b.take c).map bv).length → cutH (some ⟨gl, 0, none⟩) x.at_ m = some ⟨gl, x.at_, none⟩ ∧ ∃ ad, cutH x.a 0 x.c = some ad ∧ ∀ j v, ((b.take c).map bv)[j]? = some v → (wr.alloc ob).cell? (ad.add j) = some v) := by
        intro c ob hc hp
        have hx := HX.out
        rw [List.length_map] at hp
        have hp2 := hp
        rw [List.length_take] at hp2
        exact ⟨cut_at (by omega), ((HE5.out.all ((Below.refl _ _).alloc (Nat.le_refl _) ob)).h c x.c (by omega)).src hp⟩
      have HN : Hid (∀ c : Nat, c ≤ x.n → ((b.take c).map bv).length = Nat.min c (m - x.at_)) := by
        intro c hc
        have hx := HX.out
        rw [List.length_map, List.length_take, Nat.min_eq_left (by omega)]; exact (Nat.min_eq_left (by omega)).symm
      have HF : Hid (∀ c : Nat, c ≤ x.n → x.at_ + ((b.take c).map bv).length ≤ (o.map bv).length) := by
        intro c hc
        have hx := HX.out
        have hd := HDL.out
        rw [List.length_map, List.length_take, List.length_map]; omega
      have HT2 : Hid (∀ c : Nat, (c : Int) = max 0 (min kp x.n) → dDone d.lasts keep (d.waits.take (k + 1)) = splice o x.at_ (b.take c)) := by
        intro c hc
        have hx := HX.out
        rw [HT.out, show (min kp (b.length : Int)).toNat = c by rw [hx.1]; omega]
      have HK2 : Hid (dKeep keep (d.waits.take (k + 1)) = kp - max 0 (min kp x.n)) := by
        have hx := HX.out
        rw [Hid, HK.out, hx.1]
      have HS : Hid (∀ (c : Nat) (w4 : World), c ≤ x.n → w4.heap[gl]? = some (.cells (splice (o.map bv) x.at_ ((b.take c).map bv)).toArray 5 (0, 0)) → w4.heap[gl]? = some (.cells ((splice o x.at_ (b.take c)).map bv).toArray 5 (0, 0))) := by
        intro c w4 hc h4
        have hx := HX.out
        have hd := HDL.out
        have := splice_map (l := o) (b := b.take c) (sp := []) (k := x.at_) (by rw [List.length_take]; omega)
        rw [List.append_nil, List.append_nil] at this
        rw [h4, this]
      have icut := cut_lI (some ⟨gl, 0, none⟩) m m x.at_ x.at_ rfl hatm (Nat.le_refl _)
      clear HX HDL HT HK HE5
      by_cases h1 : (x.n : Int) < kp
      · by_cases h2 : (0 : Int) < x.n
        · have hcn : x.n ≤ x.n := Nat.le_refl _
          have hcm : Hid ((x.n : Int) = max 0 (min kp x.n)) := by rw [Hid]; omega
          have icut2 := cut_hI x.a x.n x.c x.n (x.n : Int) rfl (by omega)
          go_wp2_with fail
          go_region_law (refine step_copyT rfl (.tmp 28) (.tmp 32) 32 32 rfl 5 sliceB (by kernel_rfl) _ _ _ _ _ _ rfl rfl gl x.at_ _ _ (by exact HG.out _) ((b.take (x.n)).map bv) (by exact HN.out _ hcn) (by exact HP.out _ _ hcn) (HF.out _ hcn) (bv_one _) ?_; intro w4 hg4 ht4; have HB4 := hid ht4; clear ht4)
          all_goals (
            go_wp2
            go_roundw
            case rel => exact ⟨k + 1, by omega, by rw [HK2.out]; go_num, by rw [HK2.out]; omega, by rw [HK2.out]; omega, by go_num, by rw [HT2.out _ hcm.out]; exact HS.out _ _ hcn hg4.out, (HB.out.alloc _).trans (Touch.undrew HB4.out) (fun x hx => .inl hx)⟩
            case measure => simp [intOf]; omega)
        · have hcn : 0 ≤ x.n := Nat.zero_le _
          have hcm : Hid (((0 : Nat) : Int) = max 0 (min kp x.n)) := by rw [Hid]; omega
          have h3 : (x.n : Int) ≤ 0 := by omega
          have icut2 := cut_hI x.a x.n x.c 0 0 rfl (by omega)
          go_wp2_with fail
          go_region_law (refine step_copyT rfl (.tmp 28) (.tmp 32) 32 32 rfl 5 sliceB (by kernel_rfl) _ _ _ _ _ _ rfl rfl gl x.at_ _ _ (by exact HG.out _) ((b.take (0)).map bv) (by exact HN.out _ hcn) (by exact HP.out _ _ hcn) (HF.out _ hcn) (bv_one _) ?_; intro w4 hg4 ht4; have HB4 := hid ht4; clear ht4)
          all_goals (
            go_wp2
            go_roundw
            case rel => exact ⟨k + 1, by omega, by rw [HK2.out]; go_num, by rw [HK2.out]; omega, by rw [HK2.out]; omega, by go_num, by rw [HT2.out _ hcm.out]; exact HS.out _ _ hcn hg4.out, (HB.out.alloc _).trans (Touch.undrew HB4.out) (fun x hx => .inl hx)⟩
            case measure => simp [intOf]; omega)
      · have h1' : kp ≤ (x.n : Int) := by omega
        by_cases h2 : 0 < kp
        · obtain ⟨c, rfl⟩ := Int.eq_ofNat_of_zero_le (show 0 ≤ kp by omega)
          have hcn : c ≤ x.n := by omega
          have hcm : Hid ((c : Int) = max 0 (min (c : Int) x.n)) := by rw [Hid]; omega
          have icut2 := cut_hI x.a x.n x.c c (c : Int) rfl (by omega)
          go_wp2_with fail
          go_region_law (refine step_copyT rfl (.tmp 28) (.tmp 32) 32 32 rfl 5 sliceB (by kernel_rfl) _ _ _ _ _ _ rfl rfl gl x.at_ _ _ (by exact HG.out _) ((b.take (c)).map bv) (by exact HN.out _ hcn) (by exact HP.out _ _ hcn) (HF.out _ hcn) (bv_one _) ?_; intro w4 hg4 ht4; have HB4 := hid ht4; clear ht4)
          all_goals (
            go_wp2
            go_roundw
            case rel => exact ⟨k + 1, by omega, by rw [HK2.out]; go_num, by rw [HK2.out]; omega, by rw [HK2.out]; omega, by go_num, by rw [HT2.out _ hcm.out]; exact HS.out _ _ hcn hg4.out, (HB.out.alloc _).trans (Touch.undrew HB4.out) (fun x hx => .inl hx)⟩
            case measure => simp [intOf]; omega)
        · have hcn : 0 ≤ x.n := Nat.zero_le _
          have hcm : Hid (((0 : Nat) : Int) = max 0 (min kp x.n)) := by rw [Hid]; omega
          have h3 : kp ≤ 0 := by omega
          have icut2 := cut_hI x.a x.n x.c 0 0 rfl (by omega)
          go_wp2_with fail
          go_region_law (refine step_copyT rfl (.tmp 28) (.tmp 32) 32 32 rfl 5 sliceB (by kernel_rfl) _ _ _ _ _ _ rfl rfl gl x.at_ _ _ (by exact HG.out _) ((b.take (0)).map bv) (by exact HN.out _ hcn) (by exact HP.out _ _ hcn) (HF.out _ hcn) (bv_one _) ?_; intro w4 hg4 ht4; have HB4 := hid ht4; clear ht4)
          all_goals (
            go_wp2
            go_roundw
            case rel => exact ⟨k + 1, by omega, by rw [HK2.out]; go_num, by rw [HK2.out]; omega, by rw [HK2.out]; omega, by go_num, by rw [HT2.out _ hcm.out]; exact HS.out _ _ hcn hg4.out, (HB.out.alloc _).trans (Touch.undrew HB4.out) (fun x hx => .inl hx)⟩
            case measure => simp [intOf]; omega)
    · have ek : k = n := by omega
      have HRr : Hid (d.waits.take k = d.waits) := by rw [Hid, ek, HLen.out, List.take_length]
      clear ek
      go_wp2
      refine bodyPost_end (results_none rfl _ _ _) rfl ⟨rfl, ?_⟩
      have := HRo.out
      rw [HRr.out] at this
      exact done_fin H.out keep HB.out this

theorem crash_any {w : World} {B : Nat} {F : Nat → Prop} {p : Value} {d : DSt} (h : IsDisk w B F p d) (keep : Int) (hk0 : -9223372036854775808 ≤ keep) (hk1 : keep ≤ 9223372036854775807) (hw : d.waits.length ≤ 1000000) :
    Calls Try.prog 19 #[p, .int .i64 keep] w fun e w' => e = .returned (.tuple #[]) ∧ IsDisk w' B F p (d.crash keep) ∧ Touch F w w' := by
  have H := hid h
  obtain ⟨g, gl, vw, ws, rfl, h⟩ := h
  clear h
  go_enter Try.func19, Try.ntmps19
  go_wp2_with fail
  refine (done_any (by exact H.out) keep hk0 hk1 hw).mono ?_
  rintro e w' ⟨rfl, h1, h2⟩
  have H1 := hid h1
  have H2 := hid h2
  clear h1 h2
  go_wp2
  refine bodyPost_end (results_none rfl _ _ _) rfl ⟨rfl, H1.out, H2.out⟩

theorem sync_any {w : World} {B : Nat} {F : Nat → Prop} {p : Value} {d : DSt} (h : IsDisk w B F p d) (hw : d.waits.length ≤ 1000000) (hs : d.syncs < 1000000000) :
    Calls Try.prog 45 #[p] w fun e w' => e = .returned (.tuple #[]) ∧ IsDisk w' B F p d.sync ∧ Touch F w w' := by
  have H := hid h
  obtain ⟨g, gl, vw, ws, rfl, h⟩ := h
  have hdw := dWaits_le h.fit
  have hmul : d.waits.length * d.lasts.length ≤ 1000000 * 65536 := Nat.mul_le_mul hw h.big.2
  clear h
  go_enter Try.func45, Try.ntmps45
  go_wp2_with fail
  refine (waits_any (by exact H.out) hw).mono ?_
  rintro e w1 ⟨rfl, hb1⟩
  have H1 := hid (H.out.below hb1)
  have HB1 := hid hb1
  clear hb1
  go_wp2_with fail
  refine (done_any (by exact H1.out) (dWaits d.waits : Int) (by omega) (by omega) hw).mono ?_
  rintro e w2 ⟨rfl, h2, ht2⟩
  have H2 := hid h2
  have HT2 := hid ht2
  clear h2 ht2
  obtain ⟨g', gl', vw', ws', ep, h3⟩ := H2.out
  cases ep
  obtain ⟨c0, c1, c2, cf⟩ := cells3 h3.blk
  have H3 := hid h3
  have c2' : w2.cell? ⟨g, 2, none⟩ = some (.int .i64 (d.syncs : Int)) := c2
  have f2' := cf 2
  clear h3 c0 c1 c2 cf
  go_wp2_with fail
  refine (add_any (by exact c2') (by exact f2') (by omega)).mono ?_
  rintro e w3 ⟨rfl, rfl⟩
  go_wp2
  refine bodyPost_end (results_none rfl _ _ _) rfl ⟨rfl, ⟨g, gl', vw', ws', rfl, ?_⟩, ?_⟩
  · have h3 := H3.out
    have hset : Touch (fun b => b = g) w2 (w2.setCell ⟨g, 2, none⟩ (.int .i64 ((d.syncs + 1 : Nat) : Int))) := (Touch.refl (fun b => b = g) w2).setCell (p := ⟨g, 2, none⟩) (.inl rfl) _
    refine ⟨(heap_set3 h3.blk _).2.2, ?_, h3.wts.touch hset (fun b hb e => by subst e; exact h3.ne.2.1 hb), h3.len, fun k hk hk' => by simp [DSt.sync, DSt.crash] at hk', h3.fit, h3.big, h3.ne, h3.foot, fun b hb => ⟨(h3.low b hb).1, by simp; exact (h3.low b hb).2⟩⟩
    rw [heap_setCell_other _ _ _ _ (Ne.symm h3.ne.1)]; exact h3.las
  · exact ((Touch.ofBelow (M := F) HB1.out).trans HT2.out (fun x hx => .inl hx)).setCell (.inl H3.out.foot.1) _

end Go.Proofs.Ytkkailggpfmgaaa
