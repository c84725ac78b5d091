/- The journal beside the document's journal: lists alone; contracts over both. -/
import Derived.Test.YtmfbbonppmhabaaJournalRef5
import Derived.Test.YtmfbbonppmhabaaJournalMath
import Derived.Test.YtmfbbonppmhabaaSlotsRel
import Derived.Test.YtmfbbonppmhabaaJournalLaw3
namespace Go.Proofs.Ytmfbbonppmhabaa
set_option linter.unusedVariables false
set_option linter.unusedSimpArgs false
open Go.RowKit
theorem rslStart_rel {d : DSt} {r : RD} {fr sz n : Nat} (hR : Rel d r) (hfit : ∀ x ∈ d.waits, x.1 + x.2.length ≤ d.lasts.length) (hlen : d.lasts.length = n) (hin : fr + 2 * sz ≤ n) (b : List UInt8) (age : Int) :
    (slStart d fr sz b age).1 = (rslStart r fr sz b age).1 ∧ Rel (slStart d fr sz b age).2 (rslStart r fr sz b age).2 ∧ ∀ x ∈ (slStart d fr sz b age).2.waits, x.1 + x.2.length ≤ (slStart d fr sz b age).2.lasts.length := by
  unfold slStart rslStart DSt.shows
  rw [hR.bytes hfit]
  obtain ⟨x, hx⟩ : ∃ x, pic (piece d.bytes (fr + 0 * sz) sz) = x := ⟨_, rfl⟩
  obtain ⟨y, hy⟩ : ∃ y, pic (piece d.bytes (fr + 1 * sz) sz) = y := ⟨_, rfl⟩
  rw [hx, hy]
  obtain ⟨F, hF⟩ : ∃ F, frameB (codeNum age ++ b) = F := ⟨_, rfl⟩
  rw [hF]
  have hnil : (codeNum age).length = 0 ↔ isNum age = false := by rw [List.length_eq_zero_iff]; exact codeNum_nil age
  by_cases h1 : isNum age = false
  · rw [if_pos (hnil.2 h1), if_pos h1]; exact ⟨rfl, hR, hfit⟩
  have hage : 0 ≤ age := by
    obtain ⟨m, e, _⟩ := isNum_nat (n := age) (by simpa using h1)
    omega
  rw [if_neg (fun e => h1 (hnil.1 e)), if_neg h1]
  by_cases h2 : age ≤ picI x ∨ age ≤ picI y
  · rw [if_pos ((oldO_is x y hage).2 h2), if_pos h2]; exact ⟨rfl, hR, hfit⟩
  rw [if_neg (fun e => h2 ((oldO_is x y hage).1 e)), if_neg h2]
  by_cases h3 : F.length = 0 ∨ sz < F.length
  · rw [if_pos h3, if_pos h3]; exact ⟨rfl, hR, hfit⟩
  rw [if_neg h3, if_neg h3]
  have hj : (if newestI x y = 0 then 1 else 0) * sz = if picI y ≤ picI x ∧ 0 ≤ picI x then sz else 0 := by
    by_cases hz : newestI x y = 0
    · rw [if_pos hz, if_pos ((newest_zero x y).1 hz), Nat.one_mul]
    · rw [if_neg hz, if_neg (fun e => hz ((newest_zero x y).2 e)), Nat.zero_mul]
  rw [hj]
  obtain ⟨st, hst⟩ : ∃ st, (if picI y ≤ picI x ∧ 0 ≤ picI x then sz else 0) = st := ⟨_, rfl⟩
  have hst2 : st ≤ sz := by rw [← hst]; split <;> omega
  rw [hst]
  have f1 := fit_write (d := d) (k := fr + st) (b := List.replicate sz 0) hfit (by rw [List.length_replicate]; omega)
  have l1 : (d.write ((fr + st : Nat) : Int) (List.replicate sz 0)).sync.lasts.length = n := by
    show (dDone _ _ _).length = _
    rw [dDone_len _ _ _ f1, DSt.write_lasts]; exact hlen
  have f2 := fit_write (d := (d.write ((fr + st : Nat) : Int) (List.replicate sz 0)).sync) (k := fr + st) (b := F) (fun x hx => by simp [DSt.sync, DSt.crash] at hx) (by rw [l1]; omega)
  exact ⟨rfl, ((hR.write _ _).sync f1).write _ _, f2⟩
theorem jAge_is (o : Option (List UInt8 × Nat)) : picI o = jAge o := by cases o <;> rfl
section
variable {N q sz used k : Nat} {d : DSt} {r : RD} {o : Option (List UInt8 × Nat)} {ops : List (List UInt8)}
theorem JInv.fit (h : JInv N q sz d used o ops k) : ∀ x ∈ d.waits, x.1 + x.2.length ≤ d.lasts.length := fun x hx => by rw [h.waits] at hx; cases hx
theorem JInv.rStart (h : JInv N q sz d used o ops k) (G : JGeo N q sz) (hR : Rel d r) (l : List UInt8) :
    (jStart d (2 * q) sz used (jCnt o ops) l).1 = (rjStart (2 * q) sz r (recL (picA o) ops) (jCnt o ops) l).1 ∧ Rel (jStart d (2 * q) sz used (jCnt o ops) l).2.1 (rjStart (2 * q) sz r (recL (picA o) ops) (jCnt o ops) l).2.1 ∧
      (∀ x ∈ (jStart d (2 * q) sz used (jCnt o ops) l).2.1.waits, x.1 + x.2.length ≤ (jStart d (2 * q) sz used (jCnt o ops) l).2.1.lasts.length) ∧
      ((jRoom sz used (jCnt o ops) l.length = true ∧ (rjStart (2 * q) sz r (recL (picA o) ops) (jCnt o ops) l).1 = 0 ∧ (rjStart (2 * q) sz r (recL (picA o) ops) (jCnt o ops) l).2.2 = (recL (picA o) (ops ++ [l]), jCnt o (ops ++ [l]))) ∨
       (jRoom sz used (jCnt o ops) l.length = false ∧ (rjStart (2 * q) sz r (recL (picA o) ops) (jCnt o ops) l).1 ≠ 0 ∧ (rjStart (2 * q) sz r (recL (picA o) ops) (jCnt o ops) l).2 = (r, recL (picA o) ops, jCnt o ops))) := by
  have hc := codeNum_len (jCnt o ops)
  have hg := G.sum
  cases hr : jRoom sz used (jCnt o ops) l.length
  · by_cases h0 : l.length = 0 ∨ 3900 < l.length
    · have e1 : jStart d (2 * q) sz used (jCnt o ops) l = (1, d, used, jCnt o ops) := by unfold jStart; rw [if_pos h0]
      have e2 : rjStart (2 * q) sz r (recL (picA o) ops) (jCnt o ops) l = (1, r, recL (picA o) ops, jCnt o ops) := by unfold rjStart; rw [if_pos (by omega)]
      rw [e1, e2]
      exact ⟨rfl, hR, h.fit, .inr ⟨rfl, (show (1 : Int) ≠ 0 by decide), rfl⟩⟩
    have hfl := frame_len (p := codeNum (jCnt o ops) ++ l) (by rw [List.length_append]; omega) (by rw [List.length_append]; omega)
    have hr2 := hr
    rw [jRoom_is (by omega) (by omega)] at hr2
    have hr3 := of_decide_eq_false hr2
    have e1 : jStart d (2 * q) sz used (jCnt o ops) l = (3, d, used, jCnt o ops) := by unfold jStart; rw [if_neg h0, if_pos hr]
    have e3 : rlogPut (2 * q) sz r (recL (picA o) ops) (codeNum (jCnt o ops) ++ l) = (3, r, recL (picA o) ops) := by unfold rlogPut; rw [h.log.len_, if_neg (by omega), if_pos (by omega)]
    have e2 : rjStart (2 * q) sz r (recL (picA o) ops) (jCnt o ops) l = (3, r, recL (picA o) ops, jCnt o ops) := by unfold rjStart; rw [if_neg (by omega), e3]; rfl
    rw [e1, e2]
    exact ⟨rfl, hR, h.fit, .inr ⟨rfl, (show (3 : Int) ≠ 0 by decide), rfl⟩⟩
  · obtain ⟨h1, h2, hf, e⟩ := h.start hr
    rw [e]
    have hfl := frame_len (p := codeNum (jCnt o ops) ++ l) (by rw [List.length_append]; omega) (by rw [List.length_append]; omega)
    have e3 : rlogPut (2 * q) sz r (recL (picA o) ops) (codeNum (jCnt o ops) ++ l) = (0, r.write ((2 * q + used : Nat) : Int) (frameB (codeNum (jCnt o ops) ++ l)), recL (picA o) ops ++ [codeNum (jCnt o ops) ++ l]) := by unfold rlogPut; rw [h.log.len_, if_neg (by omega), if_neg (by omega)]
    have e2 : rjStart (2 * q) sz r (recL (picA o) ops) (jCnt o ops) l = (0, r.write ((2 * q + used : Nat) : Int) (frameB (codeNum (jCnt o ops) ++ l)), recL (picA o) (ops ++ [l]), jCnt o (ops ++ [l])) := by
      unfold rjStart
      rw [if_neg (by omega), e3, recL_app, ← cnt_step]
      rfl
    rw [e2]
    exact ⟨rfl, hR.write _ _, fit_write h.fit (by rw [h.len]; omega), .inl ⟨rfl, rfl, rfl⟩⟩
theorem JInv.rApp (h : JInv N q sz d used o ops k) (G : JGeo N q sz) (hR : Rel d r) (l : List UInt8) :
    (jAppend d (2 * q) sz used (jCnt o ops) l).1 = (rjAppend (2 * q) sz r (recL (picA o) ops) (jCnt o ops) l).1 ∧ Rel (jAppend d (2 * q) sz used (jCnt o ops) l).2.1 (rjAppend (2 * q) sz r (recL (picA o) ops) (jCnt o ops) l).2.1 ∧
      ((jRoom sz used (jCnt o ops) l.length = true ∧ (rjAppend (2 * q) sz r (recL (picA o) ops) (jCnt o ops) l).2.2 = (recL (picA o) (ops ++ [l]), jCnt o (ops ++ [l]))) ∨
       (jRoom sz used (jCnt o ops) l.length = false ∧ (rjAppend (2 * q) sz r (recL (picA o) ops) (jCnt o ops) l).2.2 = (recL (picA o) ops, jCnt o ops))) := by
  obtain ⟨e1, e2, e3, e4⟩ := h.rStart G hR l
  unfold jAppend rjAppend
  rw [e1]
  rcases e4 with ⟨q1, q2, q3⟩ | ⟨q1, q2, q3⟩
  · rw [if_pos q2, if_pos q2]
    exact ⟨rfl, e2.sync e3, .inl ⟨q1, by show ((rjStart _ _ _ _ _ _).2.2.1, (rjStart _ _ _ _ _ _).2.2.2) = _; rw [q3]⟩⟩
  · rw [if_neg q2, if_neg q2]
    exact ⟨rfl, e2, .inr ⟨q1, by show ((rjStart _ _ _ _ _ _).2.2.1, (rjStart _ _ _ _ _ _).2.2.2) = _; rw [q3]⟩⟩
theorem JInv.rCompact (h : JInv N q sz d used o ops k) (G : JGeo N q sz) (hR : Rel d r) (p : List UInt8) :
    (jCompact d q (2 * q) sz used (jCnt o ops) (jAge o) p).1 = (rjCompact q (2 * q) sz r (recL (picA o) ops) (jCnt o ops) (jAge o) p).1 ∧ Rel (jCompact d q (2 * q) sz used (jCnt o ops) (jAge o) p).2.1 (rjCompact q (2 * q) sz r (recL (picA o) ops) (jCnt o ops) (jAge o) p).2.1 ∧
      (rjCompact q (2 * q) sz r (recL (picA o) ops) (jCnt o ops) (jAge o) p).2.2 = (if (jCompact d q (2 * q) sz used (jCnt o ops) (jAge o) p).1 = 0 then [] else recL (picA o) ops, (jCompact d q (2 * q) sz used (jCnt o ops) (jAge o) p).2.2.2) := by
  have hg := G.sum
  obtain ⟨s1, s2, s3⟩ := rslStart_rel (fr := 0) (sz := q) hR h.fit h.len (by omega) p (jCnt o ops)
  unfold jCompact rjCompact
  by_cases ha : jAge o = jCnt o ops
  · rw [if_pos ha, if_pos ha]
    exact ⟨rfl, hR, rfl⟩
  rw [if_neg ha, if_neg ha]
  unfold slSave
  simp only
  rw [s1]
  by_cases h0 : (rslStart r 0 q p (jCnt o ops)).1 = 0
  · rw [if_pos h0, if_pos h0, if_pos h0]
    have hl : (slStart d 0 q p (jCnt o ops)).2.sync.lasts.length = N := by
      have hS : SInv d 0 q N := ⟨h.waits, h.len, by omega⟩
      obtain ⟨A, eA, t⟩ := slStart_inv (by rw [s1]; exact h0 : (slStart d 0 q p (jCnt o ops)).1 = 0)
      obtain ⟨z1, z2, z3, z4⟩ := t.save hS
      have := z2.len
      unfold slSave at this
      simp only at this
      rw [eA]
      rwa [if_pos (by rw [← eA, s1]; exact h0)] at this
    refine ⟨rfl, (s2.sync s3).nought (fun x hx => by simp [DSt.sync, DSt.crash] at hx) (by rw [hl, G.sum]; exact Nat.le_refl _) (Nat.zero_le _), rfl⟩
  · rw [if_neg h0, if_neg h0, if_neg h0]
    exact ⟨rfl, s2, rfl⟩
set_option maxHeartbeats 1600000 in
/-- What opening finds, and leaves, on either side. -/
theorem jOpen_rel (G : JGeo N q sz) (hR : Rel d r) (hw : d.waits = []) (hl : d.lasts.length = N) (hp : jPic d q sz = o) (hJ : JInv N q sz (jDisk d q sz) used o ops k) (ho : jOps d q sz = ops) :
    ∃ U : Nat, fAll (piece r.bytes (2 * q) sz) 0 = (jRecs d q sz, (U : Int)) ∧ U ≤ sz ∧ r.b.length = N ∧ r.bytes.length = N ∧ (r.nought (2 * q) sz U).bytes.length = N ∧
      loadO (pic (piece (r.nought (2 * q) sz U).bytes (0 + 0 * q) q)) (pic (piece (r.nought (2 * q) sz U).bytes (0 + 1 * q) q)) = o ∧ (jRecs d q sz).length ≤ 65536 ∧
      Rel (jDisk d q sz) (rjD q sz (r.nought (2 * q) sz U) (elderL (jRecs d q sz) (picA o))) ∧ rjPs (jRecs d q sz) (elderL (jRecs d q sz) (picA o)) = recL (picA o) ops ∧ followL (jRecs d q sz) (picA o) = ops := by
  have hfit : ∀ x ∈ d.waits, x.1 + x.2.length ≤ d.lasts.length := fun x hx => by rw [hw] at hx; cases hx
  have hg := G.sum
  have hroom : 2 * q + sz ≤ d.lasts.length := by rw [hl, G.sum]; exact Nat.le_refl _
  have hb := hR.bytes hfit
  obtain ⟨r1, r2, r3, r4⟩ := fAll_is (piece d.bytes (2 * q) sz)
  have hbl : d.bytes.length = d.lasts.length := dAll_len _ _ hfit
  rw [piece_len (by rw [hbl]; exact hroom)] at r3
  have hA : fAll (piece d.bytes (2 * q) sz) 0 = (jRecs d q sz, (((jRecs d q sz).flatMap frameB).length : Int)) := by
    rw [jRecs, ← r2]
  obtain ⟨d', e1, e2, e3, e4, e5, e6⟩ := openInv hfit hroom hA
  have hD1 : jDisk1 d q sz = d' := by rw [jDisk1, e1]
  have hRN : Rel d' (r.nought (2 * q) sz ((jRecs d q sz).flatMap frameB).length) := by
    rw [← e1]
    exact hR.nought hfit hroom r3
  have hfit' : ∀ x ∈ d'.waits, x.1 + x.2.length ≤ d'.lasts.length := fun x hx => by rw [e3] at hx; cases hx
  have hb' := hRN.bytes hfit'
  have hel : elderL (jRecs d q sz) (picA o) = jElder d q sz := by rw [jElder, hp]
  have hfo : followL (jRecs d q sz) (picA o) = ops := by rw [← ho, jOps, hp]
  refine ⟨((jRecs d q sz).flatMap frameB).length, by rw [hb, hA], r3, by rw [hR.b, hl], by rw [hb, hbl, hl], by rw [hb', DSt.bytes, dAll_len _ _ hfit', e5, hl], ?_, ?_, ?_, ?_, hfo⟩
  · rw [hb', ← hp, jPic, hD1]
    rfl
  · have h2 := flat_ge _ r1
    have : (jRecs d q sz).length ≤ sz := Nat.le_trans h2 r3
    have := G.big
    omega
  · rw [hel]
    unfold jDisk rjD
    rw [hD1]
    by_cases he : jElder d q sz = true
    · rw [if_pos he, if_pos he]
      exact hRN.nought hfit' (by rw [e5]; exact hroom) (Nat.zero_le _)
    · rw [if_neg he, if_neg he]
      exact hRN
  · rw [hel]
    unfold rjPs
    by_cases he : jElder d q sz = true
    · rw [if_pos he]
      have h0 : ops = [] := by
        rw [← hfo]
        cases hrs : jRecs d q sz with
        | nil => rfl
        | cons x xs =>
          by_cases hx : followL (x :: xs) (picA o) = []
          · exact hx
          · rw [← hel, hrs] at he
            have h1 := docL_elder (picA o) (x :: xs)
            rw [he, Bool.and_eq_true, decide_eq_true_iff, decide_eq_true_iff] at h1
            have h2 := (docL_ops (picA o) (x :: xs) ⟨[], picA o, 0, false⟩ rfl).1
            obtain ⟨y, hy, hz⟩ := (docL_old (picA o) (x :: xs) ⟨[], picA o, 0, false⟩ (fun _ => rfl)).2.2 rfl (by rw [h2]; exact hx)
            unfold elderL at he
            rw [Bool.and_eq_true, List.all_eq_true] at he
            have h3 : elder1 y (picA o) = true := he.2 y hy
            rw [hz] at h3
            cases h3
      rw [h0]; rfl
    · rw [if_neg he]
      have h1 : jDisk d q sz = d' := by rw [jDisk, if_neg he, hD1]
      have h2 := hJ.log.all
      rw [h1, e2.all] at h2
      exact (Prod.mk.inj h2).1
/-- Append, on either side. -/
theorem JInv.appR (h : JInv N q sz d used o ops k) (G : JGeo N q sz) (hR : Rel d r) (l : List UInt8) :
    ∃ E d' used' ops' r', jAppend d (2 * q) sz used (jCnt o ops) l = (E, d', used', jCnt o ops') ∧ rjAppend (2 * q) sz r (recL (picA o) ops) (jCnt o ops) l = (E, r', recL (picA o) ops', jCnt o ops') ∧ Rel d' r' ∧ JInv N q sz d' used' o ops' (k + 1) := by
  obtain ⟨e1, e2, e3⟩ := h.rApp G hR l
  rcases e3 with ⟨q1, q2⟩ | ⟨q1, q2⟩
  · obtain ⟨d', used', a1, a2, a3⟩ := h.app G q1
    rw [a1] at e1 e2
    refine ⟨0, d', used', ops ++ [l], (rjAppend (2 * q) sz r (recL (picA o) ops) (jCnt o ops) l).2.1, a1, ?_, e2, a3⟩
    rw [show (0 : Int) = _ from e1, ← q2]
  · obtain ⟨n1, n2⟩ := jStart_no (d := d) (q := q) q1
    have a1 : jAppend d (2 * q) sz used (jCnt o ops) l = ((jStart d (2 * q) sz used (jCnt o ops) l).1, d, used, jCnt o ops) := by
      unfold jAppend
      rw [if_neg (by rcases n1 with e | e <;> rw [e] <;> decide), n2]
    rw [a1] at e1 e2
    refine ⟨_, d, used, ops, (rjAppend (2 * q) sz r (recL (picA o) ops) (jCnt o ops) l).2.1, a1, ?_, e2, h.mono (Nat.le_succ _)⟩
    rw [show (jStart d (2 * q) sz used (jCnt o ops) l).1 = _ from e1, ← q2]
/-- Compact, on either side. -/
theorem JInv.compR (h : JInv N q sz d used o ops k) (G : JGeo N q sz) (hR : Rel d r) (l : List UInt8) :
    ∃ E d' used' o' ops' r', jCompact d q (2 * q) sz used (jCnt o ops) (jAge o) l = (E, d', used', jAge o') ∧ rjCompact q (2 * q) sz r (recL (picA o) ops) (jCnt o ops) (jAge o) l = (E, r', recL (picA o') ops', jAge o') ∧ jCnt o ops = jCnt o' ops' ∧ Rel d' r' ∧ JInv N q sz d' used' o' ops' (k + 1) := by
  obtain ⟨e1, e2, e3⟩ := h.rCompact G hR l
  rcases h.compact G l with ⟨-, -, d', a1, a2⟩ | ⟨-, a1⟩
  · rw [a1] at e1 e2 e3
    refine ⟨0, d', 0, some (l, picA o + ops.length), [], (rjCompact q (2 * q) sz r (recL (picA o) ops) (jCnt o ops) (jAge o) l).2.1, a1, ?_, rfl, e2, a2⟩
    rw [show (0 : Int) = _ from e1]
    exact congrArg (fun z => (_, _, z)) e3
  · rw [a1] at e1 e2 e3
    refine ⟨3, d, used, o, ops, (rjCompact q (2 * q) sz r (recL (picA o) ops) (jCnt o ops) (jAge o) l).2.1, a1, ?_, rfl, e2, h.mono (Nat.le_succ _)⟩
    rw [show (3 : Int) = _ from e1]
    rw [show (recL (picA o) ops, jAge o) = _ from e3.symm]
/-- Start and a crash, on either side. -/
theorem JInv.tearR (h : JInv N q sz d used o ops k) (G : JGeo N q sz) (hR : Rel d r) (l : List UInt8) (keep : Int) (hk : k ≤ 100000) :
    ∃ E d1 u1 c1 r1 p1, jStart d (2 * q) sz used (jCnt o ops) l = (E, d1, u1, c1) ∧ rjStart (2 * q) sz r (recL (picA o) ops) (jCnt o ops) l = (E, r1, p1, c1) ∧ d1.waits.length ≤ 1 ∧ r1.ps.length ≤ 65536 ∧
      ∃ u' ops', Rel (d1.crash keep) (r1.crash keep) ∧ (d1.crash keep).waits = [] ∧ (d1.crash keep).lasts.length = N ∧ (d1.crash keep).syncs = d.syncs ∧ jPic (d1.crash keep) q sz = o ∧ jOps (d1.crash keep) q sz = ops' ∧ jUsed (d1.crash keep) q sz = u' ∧ JInv N q sz (jDisk (d1.crash keep) q sz) u' o ops' (k + 2) := by
  obtain ⟨e1, e2, e3, e4⟩ := h.rStart G hR l
  obtain ⟨u', ops', -, t1, t2, t3, t4, t5, t6, t7, t8, t9⟩ := h.tear G l keep hk
  have hl : (jStart d (2 * q) sz used (jCnt o ops) l).2.1.lasts = d.lasts := (jStart_lens d (2 * q) sz used (jCnt o ops) l).2.2
  have hc : (jStart d (2 * q) sz used (jCnt o ops) l).2.2.2 = (rjStart (2 * q) sz r (recL (picA o) ops) (jCnt o ops) l).2.2.2 := by
    rcases e4 with ⟨q1, q2, q3⟩ | ⟨q1, q2, q3⟩
    · rw [(h.start q1).2.2.2, q3]; exact cnt_step _ _ _
    · rw [(jStart_no q1).2, q3]
  have hps : (rjStart (2 * q) sz r (recL (picA o) ops) (jCnt o ops) l).2.1.ps.length ≤ 65536 := by
    rw [e2.ps, ← dWaits_flat]
    refine Nat.le_trans (dWaits_le e3) ?_
    rw [hl, h.len]
    have := G.big
    calc _ ≤ 1 * N := Nat.mul_le_mul t1 (Nat.le_refl _)
      _ ≤ _ := by omega
  refine ⟨(jStart d (2 * q) sz used (jCnt o ops) l).1, (jStart d (2 * q) sz used (jCnt o ops) l).2.1, (jStart d (2 * q) sz used (jCnt o ops) l).2.2.1, (jStart d (2 * q) sz used (jCnt o ops) l).2.2.2, (rjStart (2 * q) sz r (recL (picA o) ops) (jCnt o ops) l).2.1, (rjStart (2 * q) sz r (recL (picA o) ops) (jCnt o ops) l).2.2.1, rfl, by rw [e1, hc], t1, hps, u', ops', e2.crash keep e3, t7, t6, t8, t3, t4, t5, t9⟩
end
section
variable {w0 w : World} {tl : List Thing} {pr : Value} {N q sz used k gm gs gl : Nat} {d : DSt} {r : RD} {o : Option (List UInt8 × Nat)} {ops : List (List UInt8)}
abbrev rjL (gm gl gs : Nat) (pr : Value) (q sz : Nat) (r : RD) (o : Option (List UInt8 × Nat)) (cnt : Int) (aL : Option Addr) (cL : Nat) (xs : List BS) (tl : List Thing) : List Thing :=
  cellsT gm 51 (rjC (.pointer (some ⟨gs, 0, none⟩)) (.pointer (some ⟨gl, 0, none⟩)) cnt (jAge o)) :: cellsT gl 90 (rlogC pr (2 * q) sz (.slice aL xs.length cL)) :: rdT pr r :: rowsT eS bsRefs (.slice aL xs.length cL) xs :: cellsT gs 108 (rslotC pr 0 q) :: tl
theorem rjOpenI (S : St w0 w (rdT pr r :: tl)) (G : JGeo N q sz) (hq : q = N / 4) (h64 : 64 ≤ N) (hR : Rel d r) (hw : d.waits = []) (hl : d.lasts.length = N) (hs : d.syncs < 1000000) (hp : jPic d q sz = o) (hJ : JInv N q sz (jDisk d q sz) used o ops k) (ho : jOps d q sz = ops) :
    ∃ r', Rel (jDisk d q sz) r' ∧ Calls Try.prog 16 #[pr] w fun e w' => ∃ gm gs gl aP cP aO cO aL cL xs ys, e = .returned (.tuple #[(.pointer (some ⟨gm, 0, none⟩)), .slice aP (picL o).length cP, .slice aO ys.length cO, .bool true]) ∧ ((picL o).length ≤ cP ∧ cP ≤ maxLen ∧ (aP = none → cP = 0)) ∧ (ys.map BS.l = ops ∧ ∀ y ∈ ys, BS.Hd y) ∧ (xs.map BS.l = recL (picA o) ops ∧ ∀ x ∈ xs, BS.Hd x) ∧
      St w0 w' (rjL gm gl gs pr q sz r' o (jCnt o ops) aL cL xs (roT aP (picL o) :: rowsT eS bsRefs (.slice aO ys.length cO) ys :: tl)) := by
  obtain ⟨U, u1, u2, u3, u4, u5, u6, u7, u8, u9, u10⟩ := jOpen_rel G hR hw hl hp hJ ho
  refine ⟨_, u8, ?_⟩
  have hpa : picA o ≤ 9007199254740991 := by rw [← hp, jPic]; exact shows_le _ _ _
  have hps : r.ps.length = 0 := by rw [hR.ps, hw]; rfl
  have hg := G.sum
  refine (rjOpen_yes S N u3 h64 G.big hq (by omega) (by omega) (by rw [hR.syncs]; exact hs) u4 u1 u2 u5 u6 hpa u7).mono ?_
  rintro e w' ⟨gm, gs, gl, aP, cP, aO, cO, aL, cL, xs, ys, q1, q2, ⟨q3, q4⟩, ⟨q5, q6⟩, q7⟩
  rw [u10] at q3
  rw [u9] at q5
  have hyl : ys.length = ops.length := by rw [← q3, List.length_map]
  rw [jAge_is, hyl] at q7
  rw [hyl] at q1
  exact ⟨gm, gs, gl, aP, cP, aO, cO, aL, cL, xs, ys, by rw [hyl]; exact q1, q2, ⟨q3, q4⟩, ⟨q5, q6⟩, by rw [hyl]; exact q7⟩
end
end Go.Proofs.Ytmfbbonppmhabaa
