/- The slots beside the document's slots: lists alone. -/
import Derived.Test.YtmfbbonppmhabaaSlotsRef3
import Derived.Test.YtmfbbonppmhabaaSlots3
namespace Go.Proofs.Ytmfbbonppmhabaa
set_option linter.unusedVariables false
set_option linter.unusedSimpArgs false
open Go.RowKit

theorem newest_zero (x y : Option (List UInt8 × Nat)) : newestI x y = 0 ↔ picI y ≤ picI x ∧ 0 ≤ picI x := by
  rcases x with _ | p <;> rcases y with _ | q
  · exact ⟨fun h => by simp [newestI] at h, fun h => by have := h.2; simp [picI] at this⟩
  · exact ⟨fun h => by simp [newestI] at h, fun h => by have := h.2; simp [picI] at this⟩
  · exact ⟨fun _ => ⟨by show (-1 : Int) ≤ (p.2 : Int); omega, by show (0 : Int) ≤ (p.2 : Int); omega⟩, fun _ => rfl⟩
  · show (if p.2 < q.2 then (1 : Int) else 0) = 0 ↔ (q.2 : Int) ≤ (p.2 : Int) ∧ (0 : Int) ≤ (p.2 : Int)
    by_cases h : p.2 < q.2
    · rw [if_pos h]; exact ⟨fun e => by simp at e, fun e => by omega⟩
    · rw [if_neg h]; exact ⟨fun _ => by omega, fun _ => rfl⟩
theorem oldO_is (x y : Option (List UInt8 × Nat)) {age : Int} (h : 0 ≤ age) : oldO (loadO x y) age = true ↔ age ≤ picI x ∨ age ≤ picI y := by
  have e : ∀ o : Option (List UInt8 × Nat), oldO o age = true ↔ age ≤ picI o := by
    intro o
    rcases o with _ | p
    · exact ⟨fun e => (by cases e), fun e => (by have : age ≤ -1 := e; omega)⟩
    · exact decide_eq_true_iff
  rw [e, loadO_is]
  by_cases hlt : picI x < picI y
  · rw [if_pos hlt]; constructor
    · exact .inr
    · rintro (h | h) <;> omega
  · rw [if_neg hlt]; constructor
    · exact .inl
    · rintro (h | h) <;> omega
/-- What the two disks have in common. -/
structure SRel (d : DSt) (r : RD) (n k : Nat) : Prop where
  rel : Rel d r
  fit : ∀ x ∈ d.waits, x.1 + x.2.length ≤ d.lasts.length
  len : d.lasts.length = n
  few : n ≤ 400
  waits : d.waits.length ≤ k
  syncs : d.syncs ≤ k
section
variable {d : DSt} {r : RD} {fr sz n k : Nat}
theorem SRel.new {n : Nat} (hn : n ≤ 400) : SRel (DSt.new n) ⟨List.replicate n 0, [], 0⟩ n 0 :=
  ⟨Rel.new n, fun x hx => by simp [DSt.new] at hx, by simp [DSt.new], hn, Nat.le_refl _, Nat.le_refl _⟩
theorem SRel.psLen (h : SRel d r n k) : r.ps.length ≤ 400 * k := by
  rw [h.rel.ps, ← dWaits_flat]
  refine Nat.le_trans (dWaits_le h.fit) ?_
  rw [h.len, Nat.mul_comm]
  exact Nat.mul_le_mul h.few h.waits
theorem SRel.le {j : Nat} (h : SRel d r n k) (hk : k ≤ j) : SRel d r n j := ⟨h.rel, h.fit, h.len, h.few, Nat.le_trans h.waits hk, Nat.le_trans h.syncs hk⟩
theorem SRel.crash (h : SRel d r n k) (keep : Int) : SRel (d.crash keep) (r.crash keep) n k :=
  ⟨h.rel.crash keep h.fit, fun x hx => by simp [DSt.crash] at hx, by show (dDone _ _ _).length = n; rw [dDone_len _ _ _ h.fit]; exact h.len, h.few, Nat.zero_le _, h.syncs⟩
theorem SRel.sync (h : SRel d r n k) : SRel d.sync r.sync n (k + 1) :=
  ⟨h.rel.sync h.fit, fun x hx => by simp [DSt.sync, DSt.crash] at hx, by show (dDone _ _ _).length = n; rw [dDone_len _ _ _ h.fit]; exact h.len, h.few, Nat.zero_le _, by rw [(sync_waits _).2]; have := h.syncs; omega⟩
theorem SRel.bytes (h : SRel d r n k) : r.bytes = d.bytes ∧ d.bytes.length = n ∧ r.b.length = n :=
  ⟨h.rel.bytes h.fit, by rw [DSt.bytes, dAll_len _ _ h.fit]; exact h.len, by rw [h.rel.b]; exact h.len⟩
theorem SRel.start (h : SRel d r n k) (hin : fr + 2 * sz ≤ n) (b : List UInt8) (age : Int) :
    (slStart d fr sz b age).1 = (rslStart r fr sz b age).1 ∧ SRel (slStart d fr sz b age).2 (rslStart r fr sz b age).2 n (k + 1) := by
  have hk : SRel d r n (k + 1) := h.le (Nat.le_add_right _ _)
  unfold slStart rslStart DSt.shows
  rw [h.bytes.1]
  obtain ⟨x, hx⟩ : ∃ x, pic (piece d.bytes (fr + 0 * sz) sz) = x := ⟨_, rfl⟩
  obtain ⟨y, hy⟩ : ∃ y, pic (piece d.bytes (fr + 1 * sz) sz) = y := ⟨_, rfl⟩
  rw [hx, hy]
  obtain ⟨F, hF⟩ : ∃ F, frameB (codeNum age ++ b) = F := ⟨_, rfl⟩
  rw [hF]
  have hnil : (codeNum age).length = 0 ↔ isNum age = false := by rw [List.length_eq_zero_iff]; exact codeNum_nil age
  by_cases h1 : isNum age = false
  · rw [if_pos (hnil.2 h1), if_pos h1]; exact ⟨rfl, hk⟩
  have hage : 0 ≤ age := by
    obtain ⟨m, e, _⟩ := isNum_nat (n := age) (by simpa using h1)
    omega
  rw [if_neg (fun e => h1 (hnil.1 e)), if_neg h1]
  by_cases h2 : age ≤ picI x ∨ age ≤ picI y
  · rw [if_pos ((oldO_is x y hage).2 h2), if_pos h2]; exact ⟨rfl, hk⟩
  rw [if_neg (fun e => h2 ((oldO_is x y hage).1 e)), if_neg h2]
  by_cases h3 : F.length = 0 ∨ sz < F.length
  · rw [if_pos h3, if_pos h3]; exact ⟨rfl, hk⟩
  rw [if_neg h3, if_neg h3]
  have hj : (if newestI x y = 0 then 1 else 0) * sz = if picI y ≤ picI x ∧ 0 ≤ picI x then sz else 0 := by
    by_cases hz : newestI x y = 0
    · rw [if_pos hz, if_pos ((newest_zero x y).1 hz), Nat.one_mul]
    · rw [if_neg hz, if_neg (fun e => hz ((newest_zero x y).2 e)), Nat.zero_mul]
  rw [hj]
  obtain ⟨st, hst⟩ : ∃ st, (if picI y ≤ picI x ∧ 0 ≤ picI x then sz else 0) = st := ⟨_, rfl⟩
  have hst2 : st ≤ sz := by rw [← hst]; split <;> omega
  rw [hst]
  have hlen := h.len
  have f1 := fit_write (d := d) (k := fr + st) (b := List.replicate sz 0) h.fit (by rw [List.length_replicate]; omega)
  have l1 : (d.write ((fr + st : Nat) : Int) (List.replicate sz 0)).sync.lasts.length = n := by
    show (dDone _ _ _).length = _
    rw [dDone_len _ _ _ f1, DSt.write_lasts]; exact h.len
  have f2 := fit_write (d := (d.write ((fr + st : Nat) : Int) (List.replicate sz 0)).sync) (k := fr + st) (b := F) (fun x hx => by simp [DSt.sync, DSt.crash] at hx) (by rw [l1]; omega)
  refine ⟨rfl, ⟨((h.rel.write _ _).sync f1).write _ _, f2, by rw [DSt.write_lasts]; exact l1, h.few, Nat.le_trans (DSt.write_waits _ _ _) (by rw [(sync_waits _).1]; simp), ?_⟩⟩
  rw [DSt.write_syncs, (sync_waits _).2, DSt.write_syncs]
  have := h.syncs
  omega
/-- Save, beside the document's Start and Sync. -/
theorem SRel.save (h : SRel d r n k) (hin : fr + 2 * sz ≤ n) (b : List UInt8) (age : Int) :
    (slSave d fr sz b age).1 = (rslStart r fr sz b age).1 ∧ SRel (slSave d fr sz b age).2 (if (rslStart r fr sz b age).1 = 0 then (rslStart r fr sz b age).2.sync else (rslStart r fr sz b age).2) n (k + 2) := by
  obtain ⟨e, hs⟩ := h.start hin b age
  unfold slSave
  rw [e]
  refine ⟨rfl, ?_⟩
  by_cases h0 : (rslStart r fr sz b age).1 = 0
  · rw [if_pos h0, if_pos h0]; exact hs.sync
  · rw [if_neg h0, if_neg h0]; exact hs.le (by omega)
end

end Go.Proofs.Ytmfbbonppmhabaa
