/- What a crash leaves of a record that was being put; lists alone. -/
import Derived.Test.YtmfbbonppmhabaaLogs
namespace Go.Proofs.Ytmfbbonppmhabaa
set_option linter.unusedVariables false
set_option linter.unusedSimpArgs false
open Go.RowKit

/-- A new disk has no records anywhere. -/
theorem new_is {N fr sz : Nat} (h : fr + sz ≤ N) : ∃ D, DSt.new N = D ∧ (∀ x ∈ D.waits, x.1 + x.2.length ≤ D.lasts.length) ∧ fAll (piece D.bytes fr sz) 0 = ([], ((0 : Nat) : Int)) ∧ D.lasts.length = N ∧ D.waits = [] ∧ D.syncs = 0 := by
  refine ⟨_, rfl, by intro x hx; simp [DSt.new] at hx, ?_, by simp [DSt.new], rfl, rfl⟩
  have e1 : piece (DSt.new N).bytes fr sz = List.replicate sz 0 := by
    show piece (List.replicate N 0) fr sz = _
    unfold piece
    rw [List.drop_replicate, List.take_replicate]
    congr 1; omega
  rw [e1]
  have := fAll_frames (ps := []) (X := List.replicate sz 0) (by simp) (by rw [fGet_zeros]; simp)
  simpa using this
/-- A crash with nothing pending. -/
theorem crash_calm {d : DSt} (hw : d.waits = []) (keep : Int) : (d.crash keep).lasts = d.lasts ∧ (d.crash keep).waits = [] ∧ (d.crash keep).syncs = d.syncs ∧ (d.crash keep).bytes = d.bytes := by
  refine ⟨?_, rfl, rfl, ?_⟩
  · show dDone d.lasts keep d.waits = _; rw [hw]; rfl
  · show dAll (dDone d.lasts keep d.waits) [] = dAll d.lasts d.waits; rw [hw]; rfl
theorem LogInv.calm {d : DSt} {fr sz used : Nat} {ps : List (List UInt8)} (h : LogInv d fr sz used ps) (hw : d.waits = []) (keep : Int) : LogInv (d.crash keep) fr sz used ps ∧ (d.crash keep).lasts.length = d.lasts.length := by
  obtain ⟨e1, e2, e3, e4⟩ := crash_calm hw keep
  refine ⟨⟨fun x hx => by rw [e2] at hx; simp at hx, by rw [e1]; exact h.room, h.len_, h.le, h.ok, by rw [e4]; exact h.is⟩, by rw [e1]⟩
/-- A crash with one write pending. -/
theorem crash_one {d : DSt} {k : Nat} {f : List UInt8} (hw : d.waits = []) (hb : k + f.length ≤ d.lasts.length) (keep : Int) :
    ((d.write (k : Int) f).crash keep).bytes = splice d.lasts k (f.take (min keep f.length).toNat) ∧ ((d.write (k : Int) f).crash keep).lasts.length = d.lasts.length ∧ ((d.write (k : Int) f).crash keep).waits = [] ∧ ((d.write (k : Int) f).crash keep).syncs = d.syncs := by
  have hz : (d.write (k : Int) f).crash keep = ⟨splice d.lasts k (f.take (min keep f.length).toNat), [], d.syncs⟩ := by
    rw [write_in hb, hw]; rfl
  rw [hz]
  refine ⟨rfl, ?_, rfl, rfl⟩
  exact splice_len (by rw [List.length_take]; omega)
/-- A log, one record of which was being put when the disk crashed. -/
theorem LogInv.torn {d : DSt} {fr sz used : Nat} {ps : List (List UInt8)} (h : LogInv d fr sz used ps) (hw : d.waits = []) {p : List UInt8} (h1 : 1 ≤ p.length) (h2 : p.length ≤ 4000) (hr : (frameB p).length + used ≤ sz) (keep : Int) :
    fAll (piece ((d.write ((fr + used : Nat) : Int) (frameB p)).crash keep).bytes fr sz) 0 = if ((frameB p).length : Int) ≤ keep then (ps ++ [p], ((used + (frameB p).length : Nat) : Int)) else (ps, (used : Int)) := by
  have hroom := h.room
  have hfl := frame_len h1 h2
  have hbt : d.bytes = d.lasts := by unfold DSt.bytes; rw [hw]; rfl
  obtain ⟨e1, -, -, -⟩ := crash_one (d := d) (k := fr + used) (f := frameB p) hw (by omega) keep
  rw [e1, piece_splice (by exact hroom) (by rw [List.length_take]; omega), ← hbt, h.is]
  have hs := splice_zeros (X := ps.flatMap frameB) (f := (frameB p).take (min keep (frameB p).length).toNat) (z := sz - used) (by rw [List.length_take]; omega)
  rw [h.len_] at hs
  rw [hs]
  by_cases hk : ((frameB p).length : Int) ≤ keep
  · rw [if_pos hk, List.take_of_length_le (by omega), ← frames_snoc]
    rw [fAll_frames (ps := ps ++ [p]) (X := List.replicate (sz - used - (frameB p).length) 0) (by
      intro q hq
      rcases List.mem_append.1 hq with hq | hq
      · exact h.ok q hq
      · simp at hq; subst hq; exact ⟨h1, h2⟩) (by rw [fGet_zeros]; simp)]
    rw [frames_snoc, List.length_append, h.len_]
  · rw [if_neg hk, List.append_assoc]
    rw [fAll_frames (X := (frameB p).take (min keep (frameB p).length).toNat ++ List.replicate _ 0) h.ok (by
      rw [fGet_torn h1 h2 _ _ (by omega)]
      simp only []
      split <;> simp)]
    rw [h.len_]

/-- A record is put, or none; perhaps it is synced; then the disk crashes. -/
theorem LogInv.cleanPut {d : DSt} {fr sz used : Nat} {ps : List (List UInt8)} (h : LogInv d fr sz used ps) (hw : d.waits = []) (p : List UInt8) (hp : p.length < 128) (hr : used + p.length + 6 ≤ sz) (keep : Int) :
    (logPut d fr sz used p).2.1.waits.length ≤ 1 ∧ (logPut d fr sz used p).2.1.syncs = d.syncs ∧
    (((logPut d fr sz used p).2.1.sync.crash keep).lasts.length = d.lasts.length ∧ ∃ qs u, u ≤ used + p.length + 6 ∧ fAll (piece ((logPut d fr sz used p).2.1.sync.crash keep).bytes fr sz) 0 = (qs, ((u : Nat) : Int))) ∧
    (((logPut d fr sz used p).2.1.crash keep).lasts.length = d.lasts.length ∧ ∃ qs u, u ≤ used + p.length + 6 ∧ fAll (piece ((logPut d fr sz used p).2.1.crash keep).bytes fr sz) 0 = (qs, ((u : Nat) : Int))) := by
  have hroom := h.room
  by_cases h0 : p.length = 0
  · rw [logPut_bad (.inl h0)]
    simp only []
    have hs := h.sync
    have hc := hs.1.calm (sync_waits d).1 keep
    have hc2 := h.calm hw keep
    exact ⟨by rw [hw]; simp, trivial, ⟨by rw [hc.2, hs.2], ps, used, by omega, hc.1.all⟩, by rw [hc2.2], ps, used, by omega, hc2.1.all⟩
  · have hfs := frame_short (p := p) (by omega) hp
    rw [logPut_ok (by omega) (by omega) (by omega)]
    simp only []
    have hI := h.put (p := p) (by omega) (by omega) (by omega)
    have hs := hI.sync
    have hc := hs.1.calm (sync_waits _).1 keep
    have ht := h.torn hw (p := p) (by omega) (by omega) (by omega) keep
    obtain ⟨-, e2, -, -⟩ := crash_one (d := d) (k := fr + used) (f := frameB p) hw (by omega) keep
    refine ⟨?_, DSt.write_syncs _ _ _, ⟨by rw [hc.2, hs.2, DSt.write_lasts], ps ++ [p], used + (frameB p).length, by omega, hc.1.all⟩, e2, ?_⟩
    · have := DSt.write_waits d ((fr + used : Nat) : Int) (frameB p); rw [hw] at this; exact this
    · by_cases hk : ((frameB p).length : Int) ≤ keep
      · rw [if_pos hk] at ht; exact ⟨_, _, by omega, ht⟩
      · rw [if_neg hk] at ht; exact ⟨_, _, by omega, ht⟩
/-- A log that is cleared. -/
theorem LogInv.clear {d : DSt} {fr sz used : Nat} {ps : List (List UInt8)} (h : LogInv d fr sz used ps) : LogInv (d.nought fr sz 0) fr sz 0 [] ∧ (d.nought fr sz 0).lasts.length = d.lasts.length ∧ (d.nought fr sz 0).waits = [] ∧ (d.nought fr sz 0).syncs = d.syncs + 1 := by
  obtain ⟨n1, n2, n3, n4⟩ := nought_len (u := 0) h.fit h.room (Nat.zero_le _)
  exact ⟨⟨fun x hx => by rw [n2] at hx; simp at hx, by rw [n1]; exact h.room, rfl, Nat.zero_le _, by simp, by rw [n4]; simp⟩, n1, n2, n3⟩

end Go.Proofs.Ytmfbbonppmhabaa
