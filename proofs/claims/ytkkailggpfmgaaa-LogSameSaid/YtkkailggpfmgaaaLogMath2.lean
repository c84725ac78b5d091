/- Logs: what Put and Append make; lists alone. -/
import Derived.Test.YtkkailggpfmgaaaLogPut
namespace Go.Proofs.Ytkkailggpfmgaaa
set_option linter.unusedVariables false
set_option linter.unusedSimpArgs false
open Go.RowKit

theorem frame_room {p : List UInt8} (h1 : 1 ≤ p.length) (h2 : p.length ≤ 4000) (sz used : Nat) : roomB sz used p.length = decide ((frameB p).length + used ≤ sz) := by
  unfold roomB
  rw [frame_len h1 h2, decide_eq_true (by omega : (1 : Int) ≤ p.length), decide_eq_true (by omega : (p.length : Int) ≤ 4000), Bool.true_and, Bool.true_and]
  congr 1
  rw [eq_iff_iff]
  omega
/-- There is a frame's room, and it is put. -/
theorem logPut_ok {d : DSt} {fr sz used : Nat} {p : List UInt8} (h1 : 1 ≤ p.length) (h2 : p.length ≤ 4000) (h : (frameB p).length + used ≤ sz) : logPut d fr sz used p = (0, d.write ((fr + used : Nat) : Int) (frameB p), used + (frameB p).length) := by
  unfold logPut
  rw [if_neg (by omega), if_neg (by rw [frame_room h1 h2, decide_eq_true h]; simp)]
theorem logPut_full {d : DSt} {fr sz used : Nat} {p : List UInt8} (h1 : 1 ≤ p.length) (h2 : p.length ≤ 4000) (h : ¬ (frameB p).length + used ≤ sz) : logPut d fr sz used p = (3, d, used) := by
  unfold logPut
  rw [if_neg (by omega), if_pos (by rw [frame_room h1 h2, decide_eq_false h])]
theorem logPut_bad {d : DSt} {fr sz used : Nat} {p : List UInt8} (h : p.length = 0 ∨ 4000 < p.length) : logPut d fr sz used p = (1, d, used) := by
  unfold logPut; rw [if_pos h]
theorem write_in {d : DSt} {k : Nat} {b : List UInt8} (h : k + b.length ≤ d.lasts.length) : d.write (k : Int) b = { d with waits := d.waits ++ [(k, b)] } := by
  rw [DSt.write_ok (by rw [DSt.can_code, DSt.code, if_neg (by omega), if_neg (by omega)])]; rfl
/-- A log on a disk: its records, and noughts behind them. -/
structure LogInv (d : DSt) (fr sz used : Nat) (ps : List (List UInt8)) : Prop where
  fit : ∀ x ∈ d.waits, x.1 + x.2.length ≤ d.lasts.length
  room : fr + sz ≤ d.lasts.length
  len_ : (ps.flatMap frameB).length = used
  le : used ≤ sz
  ok : ∀ p ∈ ps, 1 ≤ p.length ∧ p.length ≤ 4000
  is : piece d.bytes fr sz = ps.flatMap frameB ++ List.replicate (sz - used) 0
theorem LogInv.bytesLen {d : DSt} {fr sz used : Nat} {ps : List (List UInt8)} (h : LogInv d fr sz used ps) : d.bytes.length = d.lasts.length := dAll_len _ _ h.fit
theorem LogInv.all {d : DSt} {fr sz used : Nat} {ps : List (List UInt8)} (h : LogInv d fr sz used ps) : fAll (piece d.bytes fr sz) 0 = (ps, (used : Int)) := by
  rw [h.is, fAll_frames h.ok (by rw [fGet_zeros]; simp), h.len_]
theorem splice_zeros {X f : List UInt8} {z : Nat} (h : f.length ≤ z) : splice (X ++ List.replicate z 0) X.length f = (X ++ f) ++ List.replicate (z - f.length) 0 := by
  obtain ⟨y, rfl⟩ := Nat.exists_eq_add_of_le h
  rw [show List.replicate (f.length + y) (0 : UInt8) = List.replicate f.length 0 ++ List.replicate y 0 from (List.replicate_append_replicate ..).symm, splice_parts (by simp), Nat.add_sub_cancel_left]
  simp
theorem fit_write {d : DSt} {k : Nat} {b : List UInt8} (h : ∀ x ∈ d.waits, x.1 + x.2.length ≤ d.lasts.length) (hb : k + b.length ≤ d.lasts.length) : ∀ x ∈ (d.write (k : Int) b).waits, x.1 + x.2.length ≤ (d.write (k : Int) b).lasts.length := by
  rw [write_in hb]
  intro x hx
  rcases List.mem_append.1 hx with hx | hx
  · exact h x hx
  · simp at hx; subst hx; exact hb
theorem LogInv.put {d : DSt} {fr sz used : Nat} {ps : List (List UInt8)} (h : LogInv d fr sz used ps) {p : List UInt8} (h1 : 1 ≤ p.length) (h2 : p.length ≤ 4000) (hr : (frameB p).length + used ≤ sz) : LogInv (d.write ((fr + used : Nat) : Int) (frameB p)) fr sz (used + (frameB p).length) (ps ++ [p]) := by
  have hb : fr + used + (frameB p).length ≤ d.lasts.length := by have := h.room; omega
  refine ⟨fit_write h.fit hb, by rw [DSt.write_lasts]; exact h.room, by rw [frames_snoc, List.length_append, h.len_], by omega, ?_, ?_⟩
  · intro q hq
    rcases List.mem_append.1 hq with hq | hq
    · exact h.ok q hq
    · simp at hq; subst hq; exact ⟨h1, h2⟩
  · rw [DSt.write_bytes, if_pos (by rw [DSt.can_code, DSt.code, if_neg (by omega), if_neg (by omega)]), Int.toNat_natCast, piece_splice (by rw [h.bytesLen]; exact h.room) (by omega), h.is]
    have := splice_zeros (X := ps.flatMap frameB) (f := frameB p) (z := sz - used) (by omega)
    rw [h.len_] at this
    rw [this, frames_snoc]
    congr 2
    omega
theorem LogInv.sync {d : DSt} {fr sz used : Nat} {ps : List (List UInt8)} (h : LogInv d fr sz used ps) : LogInv d.sync fr sz used ps ∧ d.sync.lasts.length = d.lasts.length := by
  have hl : d.sync.lasts.length = d.lasts.length := dDone_len _ _ _ h.fit
  exact ⟨⟨fun x hx => by simp [DSt.sync, DSt.crash] at hx, by rw [hl]; exact h.room, h.len_, h.le, h.ok, by rw [DSt.sync_bytes]; exact h.is⟩, hl⟩
/-- What opening makes of whatever disk. -/
theorem nought_len {d : DSt} {fr sz u : Nat} (hfit : ∀ x ∈ d.waits, x.1 + x.2.length ≤ d.lasts.length) (hr : fr + sz ≤ d.lasts.length) (hu : u ≤ sz) : (d.nought fr sz u).lasts.length = d.lasts.length ∧ (d.nought fr sz u).waits = [] ∧ (d.nought fr sz u).syncs = d.syncs + 1 ∧ piece (d.nought fr sz u).bytes fr sz = (piece d.bytes fr sz).take u ++ List.replicate (sz - u) 0 := by
  have hb : (fr + u) + (List.replicate (sz - u) (0 : UInt8)).length ≤ d.lasts.length := by rw [List.length_replicate]; omega
  have hl : (d.nought fr sz u).lasts.length = d.lasts.length := by
    have := dDone_len (d.write ((fr + u : Nat) : Int) (List.replicate (sz - u) 0)).waits (d.write ((fr + u : Nat) : Int) (List.replicate (sz - u) 0)).lasts (dWaits (d.write ((fr + u : Nat) : Int) (List.replicate (sz - u) 0)).waits) (fit_write hfit hb)
    rw [DSt.write_lasts] at this
    unfold DSt.nought
    rw [← this, ← DSt.write_lasts d ((fr + u : Nat) : Int) (List.replicate (sz - u) 0)]; rfl
  have hbl : d.bytes.length = d.lasts.length := dAll_len _ _ hfit
  refine ⟨hl, rfl, by show (d.write _ _).syncs + 1 = _; rw [DSt.write_syncs], ?_⟩
  show piece (DSt.sync _).bytes fr sz = _
  rw [DSt.sync_bytes, DSt.write_bytes, if_pos (by rw [DSt.can_code, DSt.code, if_neg (by omega), if_neg (by rw [List.length_replicate] at *; omega)]), Int.toNat_natCast, piece_splice (by rw [hbl]; exact hr) (by rw [List.length_replicate]; omega)]
  exact splice_end (by rw [List.length_replicate, piece_len (by rw [hbl]; exact hr)]; omega)
theorem LogInv.open_ {d : DSt} {fr sz : Nat} (hfit : ∀ x ∈ d.waits, x.1 + x.2.length ≤ d.lasts.length) (hr : fr + sz ≤ d.lasts.length) :
    LogInv (d.nought fr sz ((fAll (piece d.bytes fr sz) 0).1.flatMap frameB).length) fr sz ((fAll (piece d.bytes fr sz) 0).1.flatMap frameB).length (fAll (piece d.bytes fr sz) 0).1 := by
  obtain ⟨r1, r2, r3, r4⟩ := fAll_is (piece d.bytes fr sz)
  have hbl : d.bytes.length = d.lasts.length := dAll_len _ _ hfit
  rw [piece_len (by rw [hbl]; exact hr)] at r3
  obtain ⟨n1, n2, n3, n4⟩ := nought_len hfit hr r3
  exact ⟨fun x hx => by rw [n2] at hx; simp at hx, by rw [n1]; exact hr, rfl, r3, r1, by rw [n4, r4]⟩
theorem frame_short {p : List UInt8} (h1 : 1 ≤ p.length) (h2 : p.length < 128) : (frameB p).length = p.length + 6 := by
  rw [frame_len h1 (by omega), codeNum_yes (by omega), num_last (f := 7) h2]
  simp only [List.length_singleton]; omega
theorem sync_waits (d : DSt) : d.sync.waits = [] ∧ d.sync.syncs = d.syncs + 1 := ⟨rfl, rfl⟩
/-- What Append makes of a log that has no pending writes. -/
theorem LogInv.app {d : DSt} {fr sz used : Nat} {ps : List (List UInt8)} (h : LogInv d fr sz used ps) (hw : d.waits = []) (p : List UInt8) (hp : p.length ≤ 4000) :
    (roomB sz used p.length = true ∧ 1 ≤ p.length ∧ (logApp d fr sz used p).1 = 0 ∧ (logApp d fr sz used p).2.2 = used + (frameB p).length ∧ LogInv (logApp d fr sz used p).2.1 fr sz (used + (frameB p).length) (ps ++ [p]) ∧ (logApp d fr sz used p).2.1.waits = [] ∧ (logApp d fr sz used p).2.1.syncs = d.syncs + 1 ∧ (logApp d fr sz used p).2.1.lasts.length = d.lasts.length) ∨
    (roomB sz used p.length = false ∧ ((logApp d fr sz used p).1 = 1 ∨ (logApp d fr sz used p).1 = 3) ∧ (logApp d fr sz used p).2.2 = used ∧ (logApp d fr sz used p).2.1 = d) := by
  by_cases h0 : p.length = 0
  · right
    have e := logPut_bad (d := d) (fr := fr) (sz := sz) (used := used) (p := p) (.inl h0)
    unfold logApp
    rw [e]
    exact ⟨by unfold roomB; rw [h0]; simp, .inl rfl, rfl, rfl⟩
  by_cases hr : (frameB p).length + used ≤ sz
  · left
    have e := logPut_ok (d := d) (fr := fr) (sz := sz) (used := used) (p := p) (by omega) hp hr
    have hI := h.put (p := p) (by omega) hp hr
    unfold logApp
    rw [e]
    refine ⟨by rw [frame_room (by omega) hp]; exact decide_eq_true hr, by omega, rfl, rfl, hI.sync.1, rfl, ?_, ?_⟩
    · show (d.write _ _).syncs + 1 = _; rw [DSt.write_syncs]
    · show (DSt.sync _).lasts.length = _; rw [hI.sync.2, DSt.write_lasts]
  · right
    have e := logPut_full (d := d) (fr := fr) (sz := sz) (used := used) (p := p) (by omega) hp hr
    unfold logApp
    rw [e]
    exact ⟨by rw [frame_room (by omega) hp]; exact decide_eq_false hr, .inr rfl, rfl, rfl⟩

end Go.Proofs.Ytkkailggpfmgaaa
