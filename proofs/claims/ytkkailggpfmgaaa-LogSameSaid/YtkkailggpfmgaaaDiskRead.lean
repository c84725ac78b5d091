/- The walks of Waits, Bytes, done, Sync and Crash. -/
import Derived.Test.YtkkailggpfmgaaaDiskWalk
namespace Go.Proofs.Ytkkailggpfmgaaa
set_option linter.unusedVariables false
set_option linter.unusedSimpArgs false
open Go.RowKit

theorem idxW (a : Option Addr) (n cap : Nat) (hn : 0 < n → a.isSome = true) (k : Nat) (i : Int) (hi : i = (k : Int)) (hk : k < n) (wx : World) :
    (Instr.indexAt 72 (.slice a n cap) (.int .i64 i)).run Try.prog wx = .ok (.pointer (some (adr a (k * 2)))) wx := idxG eWok a n cap hn k i hi hk wx
theorem AtG.cellW {w : World} {a : Option Addr} {l : List WR} (h : AtG eW w a l) {k : Nat} (hk : k < l.length) :
    w.cell? (adr a (k * 2)) = some (.int .i64 l[k].at_) ∧ w.cell? (adr a (k * 2 + 1)) = some (.slice l[k].a l[k].n l[k].c) :=
  ⟨(h k hk).2 0 (by decide), (h k hk).2 1 (by decide)⟩
theorem adr_two (a : Option Addr) (k j : Nat) : (adr a k).add j = adr a (k + j) := by
  unfold adr Addr.add
  by_cases hi : k = 0 <;> by_cases hj : j = 0 <;> simp [hi, hj, Nat.add_assoc]
theorem AtG.cellW' {w : World} {a : Option Addr} {l : List WR} (h : AtG eW w a l) {k : Nat} (hk : k < l.length) :
    w.cell? (adr a (k * 2)) = some (.int .i64 l[k].at_) ∧ w.cell? { block := (adr a (k * 2)).block, off := (adr a (k * 2)).off + 1 } = some (.slice l[k].a l[k].n l[k].c) := by
  have := h.cellW hk
  rw [← adr_two] at this; exact this
theorem dWaits_le {ws : List (Nat × List UInt8)} {m : Nat} (h : ∀ x ∈ ws, x.1 + x.2.length ≤ m) : dWaits ws ≤ ws.length * m := by
  induction ws with
  | nil => simp [dWaits]
  | cons x ws ih =>
    have h1 := ih (fun y hy => h y (by simp [hy]))
    have h2 := h x (by simp)
    rw [dWaits, List.length_cons, Nat.add_mul]; omega

/-- One waiting write, as its cells say. -/
theorem DiskIn.wr {w : World} {B : Nat} {F : Nat → Prop} {g : Nat} {d : DSt} {gl : Nat} {vw : Value} {ws : List WR} (h : DiskIn w B F g d gl vw ws) {k : Nat} (hk : k < ws.length) (hk' : k < d.waits.length) :
    ws[k].at_ = d.waits[k].1 ∧ ws[k].n = d.waits[k].2.length ∧ ws[k].n ≤ ws[k].c ∧ ws[k].c ≤ maxLen ∧ At w ws[k].a d.waits[k].2 ∧ d.waits[k].1 + d.waits[k].2.length ≤ d.lasts.length ∧ (∀ x, ws[k].a = some x → F x.block ∧ x.block ≠ g ∧ x.block ≠ gl ∧ vw.ownBlock ≠ some x.block) := by
  obtain ⟨e1, e2, e3⟩ := h.each k hk hk'
  obtain ⟨a, c, e, h1, h2, h3, h4, h5⟩ := OwnG.at eBok ((ownB _ _ _ _).2 e2)
  unfold WR.v at e
  cases hx : ws[k] with
  | mk at_ a' n' c' =>
    rw [hx] at e e1 e2 e3
    cases e
    refine ⟨e1, rfl, h1, h2, (atB _ _ _).1 h4, h.fit _ (List.getElem_mem _), ?_⟩
    rintro x rfl
    exact e3 x.block rfl

set_option maxRecDepth 10000 in
theorem waits_any {w : World} {B : Nat} {F : Nat → Prop} {p : Value} {d : DSt} (h : IsDisk w B F p d) (hw : d.waits.length ≤ 1000000) :
    Calls Try.prog 37 #[p] w fun e w' => e = .returned (.int .i64 (dWaits d.waits : Int)) ∧ Below w.heap.size w w' := by
  obtain ⟨g, gl, vw, ws, rfl, h⟩ := h
  obtain ⟨c0, c1, c2, cf⟩ := cells3 h.blk
  obtain ⟨av, cv, rfl, hcv, hcm, hnil, hat, hbl⟩ := h.wts.at eWok
  have HAT := hid hat
  have H := hid h
  have HLen := hid h.len
  have hbig := h.big.2
  have i0 := fun k i hi hk => idxW av ws.length cv hat.ok k i hi hk
  have hw' : ws.length ≤ 1000000 := by rw [h.len]; exact hw
  clear h hat hnil hbl hw
  generalize hn : ws.length = n at *
  have HNw := hid hn
  clear hn
  go_enter Try.func37, Try.ntmps37
  go_wp2_with fail
  go_loopw [3, 13] (fun s q wr => ∃ k : Nat, k ≤ n ∧ s = .int .i64 (dWaits (d.waits.take k) : Int) ∧ q = .int .i64 k ∧ Below w.heap.size w wr) (fun _ q _ => n - (intOf q).toNat)
  case atStart => exact ⟨0, Nat.zero_le _, rfl, rfl, Below.refl _ _⟩
  case round =>
    obtain ⟨k, hk, rfl, rfl, hbel⟩ := hrel
    have HB := hid hbel
    have hsz := hbel.size
    clear hbel
    by_cases hlt : k < n
    · have hkw : k < ws.length := by rw [HNw.out]; exact hlt
      have hkd : k < d.waits.length := by rw [← HLen.out]; exact hlt
      have i1 := i0 k k rfl hlt
      obtain ⟨x0, x1⟩ := (AtG.all eWok HAT.out HB.out).cellW' hkw
      obtain ⟨e1, e2, e3, e4, e5, e6, e7⟩ := H.out.wr hkw hkd
      have HT := hid (dWaits_take hkd)
      have hl1 : dWaits (d.waits.take k) ≤ 1000000 * 65536 := by
        refine Nat.le_trans (dWaits_le (m := 65536) (fun x hx => Nat.le_trans (H.out.fit x (List.mem_of_mem_take hx)) hbig)) (Nat.mul_le_mul_right _ ?_)
        rw [List.length_take]; omega
      rw [← e2] at HT
      have hl2 : ws[k].n ≤ 65536 := by omega
      clear i0 e1 e2 e3 e4 e5 e6 e7
      generalize ws[k] = x at *
      generalize dWaits (d.waits.take k) = s at *
      generalize adr av (k * 2) = A at *
      go_wp2
      go_roundw
      case rel => exact ⟨k + 1, by omega, by rw [HT.out]; go_num, by go_num, (HB.out.alloc hsz _)⟩
      case measure => simp [intOf]; omega
    · have ek : k = n := by omega
      have HR : Hid (dWaits d.waits = dWaits (d.waits.take k)) := by rw [Hid, ek, HLen.out, List.take_length]
      clear ek
      go_wp2
      go_ret
      exact ⟨by rw [HR.out]; rfl, HB.out⟩

theorem Own.row {w : World} {B : Nat} {v : Value} {l : List UInt8} (h : Own w B v l) (hl : 0 < l.length) :
    ∃ g cap sp, v = .slice (some ⟨g, 0, none⟩) l.length cap ∧ B ≤ g ∧ cap = l.length + sp.length ∧ cap ≤ maxLen ∧ w.heap[g]? = some (.cells (l.map bv ++ sp).toArray 5 (0, 0)) := by
  obtain ⟨_, h⟩ := h
  rcases h with ⟨rfl, h0⟩ | ⟨g, cap, cur, rfl, hB, hg, h1, h2, h3, h4⟩
  · omega
  · refine ⟨g, cap, cur.toList.drop l.length, rfl, hB, ?_, h2, ?_⟩
    · have : (cur.toList.drop l.length).length = cur.size - l.length := by simp
      omega
    · rw [Nat.mul_one] at h4
      rw [hg, ← h4, List.take_append_drop, Array.toArray_toList]
theorem own_of_row {w : World} {B g cap : Nat} {l : List UInt8} {sp : List Value} (hB : B ≤ g) (hc : cap = l.length + sp.length) (hm : cap ≤ maxLen) (hg : w.heap[g]? = some (.cells (l.map bv ++ sp).toArray 5 (0, 0))) :
    Own w B (.slice (some ⟨g, 0, none⟩) l.length cap) l := by
  refine ⟨by simp, .inr ⟨g, cap, _, rfl, hB, hg, by omega, hm, by simp; omega, ?_⟩⟩
  simp
theorem splice_map {l b : List UInt8} {sp : List Value} {k : Nat} (h : k + b.length ≤ l.length) : splice (l.map bv ++ sp) k (b.map bv) = (splice l k b).map bv ++ sp := by
  unfold splice
  rw [List.take_append_of_le_length (by simp; omega), List.drop_append_of_le_length (by simp; omega)]
  simp
theorem cut_at {g lo cap : Nat} (h : lo < cap) : cutH (some ⟨g, 0, none⟩) lo cap = some ⟨g, lo, none⟩ := by
  unfold cutH
  rw [if_neg (by omega), Nat.mul_one]
  simp [Addr.add_lit]
theorem At.src {w : World} {a : Option Addr} {b : List UInt8} (h : At w a b) (hp : 0 < b.length) : ∃ ad, a = some ad ∧ ∀ j v, (b.map bv)[j]? = some v → w.cell? (ad.add j) = some v := by
  obtain ⟨ad, rfl⟩ := Option.isSome_iff_exists.1 (h.ok hp)
  refine ⟨ad, rfl, fun j v hj => ?_⟩
  simp only [List.getElem?_map, Option.map_eq_some_iff] at hj
  obtain ⟨c, hc, rfl⟩ := hj
  obtain ⟨hk, rfl⟩ := List.getElem?_eq_some_iff.1 hc
  exact (h j hk).2

set_option maxRecDepth 10000 in
set_option maxHeartbeats 1600000 in
theorem dbytes_any {w : World} {B : Nat} {F : Nat → Prop} {p : Value} {d : DSt} (h : IsDisk w B F p d) (hw : d.waits.length ≤ 1000000) :
    Calls Try.prog 35 #[p] w fun e w' => ∃ v, e = .returned v ∧ Own w' w.heap.size v d.bytes ∧ Below w.heap.size w w' := by
  obtain ⟨g, gl, vw, ws, rfl, h⟩ := h
  obtain ⟨c0, c1, c2, cf⟩ := cells3 h.blk
  obtain ⟨av, cv, rfl, hcv, hcm, hnil, hat, hbl⟩ := h.wts.at eWok
  have HAT := hid hat
  have H := hid h
  have HLen := hid h.len
  have hbig := h.big
  have hg := (h.low _ h.foot.1).2
  have i0 := fun k i hi hk => idxW av ws.length cv hat.ok k i hi hk
  have hw' : ws.length ≤ 1000000 := by rw [h.len]; exact hw
  have HL : Hid (At w (some ⟨gl, 0, none⟩) d.lasts) := by
    have := (own_of_row (B := 0) (sp := []) (Nat.zero_le _) rfl (by unfold maxLen; simp; omega) (by rw [List.append_nil]; exact h.las) : Own w 0 _ d.lasts).sl
    obtain ⟨a, c, e, _, _, h4⟩ := this
    cases e; exact h4
  clear h hat hnil hbl hw
  generalize hn : ws.length = n at *
  have HNw := hid hn
  clear hn
  generalize hm : d.lasts.length = m at *
  have HM := hid hm
  clear hm
  go_enter Try.func35, Try.ntmps35
  go_wp2_with fail
  refine (clone_any _ d.lasts m m _ (by exact HM.out) (by omega) (by intro e; cases e) (by exact HL.out)).mono ?_
  rintro e w1 ⟨v1, rfl, hown1, hb1⟩
  obtain ⟨go, cap, sp, rfl, hgo, hcap, hcapm, hrow⟩ := hown1.row (by have := HM.out; omega)
  have HR := hid hrow
  have HB1 := hid hb1
  have HCap := hid hcap
  have c1' : w1.cell? ⟨g, 1, none⟩ = some (.slice av n cv) := by rw [hb1.cell hg]; exact c1
  have hlm : d.lasts.length = m := HM.out
  rw [hlm]
  rw [hlm] at hcap
  have HCp := hid hcap
  have hmc : m ≤ cap := by omega
  clear hown1 hb1 hrow hlm hcap
  go_wp2_with fail
  go_loopw [18] (fun q wr => ∃ k : Nat, k ≤ n ∧ q = .int .i64 k ∧ wr.heap[go]? = some (.cells ((dAll d.lasts (d.waits.take k)).map bv ++ sp).toArray 5 (0, 0)) ∧ Below w.heap.size w wr) (fun q _ => n - (intOf q).toNat)
  case atStart => exact ⟨0, Nat.zero_le _, rfl, HR.out, HB1.out⟩
  case round =>
    obtain ⟨k, hk, rfl, hrow, hbel⟩ := hrel
    have HB := hid hbel
    have HRo := hid hrow
    have hsz := hbel.size
    clear hbel hrow
    by_cases hlt : k < n
    · have hkw : k < ws.length := by rw [HNw.out]; exact hlt
      have hkd : k < d.waits.length := by rw [← HLen.out]; exact hlt
      have i1 := i0 k k rfl hlt
      obtain ⟨x0, x1⟩ := (AtG.all eWok HAT.out HB.out).cellW' hkw
      obtain ⟨e1, e2, e3, e4, e5, e6, e7⟩ := H.out.wr hkw hkd
      have HT := hid (dAll_take (l := d.lasts) hkd)
      have HE5 := hid (e5.all HB.out)
      have hdl := dAll_len (d.waits.take k) d.lasts (fun x hx => H.out.fit x (List.mem_of_mem_take hx))
      rw [HM.out] at hdl e6
      have hgolt : go < wr.heap.size := (Array.getElem?_eq_some_iff.1 HRo.out).1
      rw [← e1] at HT e6
      have hatm : ws[k].at_ ≤ m := by omega
      have HX : Hid (d.waits[k].2.length = ws[k].n ∧ ws[k].at_ + ws[k].n ≤ m) := ⟨e2.symm, by omega⟩
      clear i0 e1 e2 e3 e4 e5 e6 e7
      generalize ws[k] = x at *
      generalize d.waits[k].2 = b at *
      generalize dAll d.lasts (d.waits.take k) = o at *
      generalize adr av (k * 2) = A at *
      have HDL := hid hdl
      clear hdl
      have HG : Hid (∀ ob : Obj, (wr.alloc ob).heap[go]? = some (.cells (o.map bv ++ sp).toArray 5 (0, 0))) := fun ob => (Below.heap_alloc _ _ _ hgolt).trans HRo.out
      have HP : Hid (∀ ob : Obj, 0 < (b.map bv).length → cutH (some ⟨go, 0, none⟩) x.at_ cap = some ⟨go, x.at_, none⟩ ∧ ∃ ad, x.a = some ad ∧ ∀ j v, (b.map bv)[j]? = some v → (wr.alloc ob).cell? (ad.add j) = some v) := by
        intro ob hp
        rw [List.length_map] at hp
        have hx := HX.out
        exact ⟨cut_at (by omega), (HE5.out.all ((Below.refl _ _).alloc (Nat.le_refl _) ob)).src hp⟩
      have hN : Hid ((b.map bv).length = Nat.min x.n (m - x.at_)) := by
        have hx := HX.out
        rw [Hid, List.length_map, hx.1]; exact (Nat.min_eq_left (by omega)).symm
      have hF : Hid (x.at_ + (b.map bv).length ≤ (o.map bv ++ sp).length) := by
        have hx := HX.out
        have hd := HDL.out
        have hc := HCp.out
        rw [Hid, List.length_map, List.length_append, List.length_map]; omega
      have icut := cut_lI (some ⟨go, 0, none⟩) m cap x.at_ x.at_ rfl hatm (by omega)
      go_wp2_with fail
      go_region_law (refine step_copy_splice rfl (.tmp 25) (.tmp 27) 32 32 rfl 5 sliceB (by kernel_rfl) _ _ _ _ _ _ rfl rfl go x.at_ _ _ (by exact HG.out _) (b.map bv) hN.out (by exact HP.out _) hF.out (bv_one b) w.heap.size w (by exact (HB.out.alloc hsz _).drew) hgo ?_; intro w4 hg4 hb4; have HB4 := hid hb4; clear hb4)
      all_goals (
        go_wp2
        go_roundw
        case rel => exact ⟨k + 1, by omega, by go_num, by rw [HT.out]; have := hg4.out; rwa [splice_map (by have := HX.out; have := HDL.out; omega)] at this, HB4.out⟩
        case measure => simp [intOf]; omega)
    · have ek : k = n := by omega
      have HRr : Hid (d.bytes = dAll d.lasts (d.waits.take k)) := by rw [Hid, DSt.bytes, ek, HLen.out, List.take_length]
      have hdl := dAll_len (d.waits.take k) d.lasts (fun x hx => H.out.fit x (List.mem_of_mem_take hx))
      rw [HM.out] at hdl
      have HDL := hid hdl
      clear ek hdl
      go_wp2
      go_ret
      refine ⟨_, rfl, ?_, HB.out⟩
      rw [HRr.out, ← HDL.out]
      exact own_of_row hgo (by rw [HDL.out]; exact HCp.out) hcapm HRo.out

end Go.Proofs.Ytkkailggpfmgaaa
