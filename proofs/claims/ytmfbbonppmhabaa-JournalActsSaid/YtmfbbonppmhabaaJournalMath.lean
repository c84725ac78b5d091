/- The journal's plain law: what lies on its disk. -/
import Derived.Test.YtmfbbonppmhabaaJournal6
import Derived.Test.YtmfbbonppmhabaaLogTear
import Derived.Test.YtmfbbonppmhabaaSlotsMath2
namespace Go.Proofs.Ytmfbbonppmhabaa
set_option linter.unusedVariables false
set_option linter.unusedSimpArgs false
open Go.RowKit
def recL : Nat → List (List UInt8) → List (List UInt8)
  | _, [] => []
  | f, op :: ops => (codeNum (f : Int) ++ op) :: recL (f + 1) ops
theorem recL_len : ∀ (ops : List (List UInt8)) (f : Nat), (recL f ops).length = ops.length
  | [], _ => rfl
  | op :: ops, f => by rw [recL, List.length_cons, recL_len ops, List.length_cons]
theorem recL_app (op : List UInt8) : ∀ (ops : List (List UInt8)) (f : Nat), recL f (ops ++ [op]) = recL f ops ++ [codeNum ((f + ops.length : Nat) : Int) ++ op]
  | [], f => by simp [recL]
  | x :: ops, f => by rw [List.cons_append, recL, recL_app op ops, recL, List.cons_append, List.length_cons, show f + 1 + ops.length = f + (ops.length + 1) by omega]
theorem isNum_of {n : Nat} (h : n ≤ 9007199254740991) : isNum (n : Int) = true := by unfold isNum; exact decide_eq_true ⟨by omega, by omega⟩
theorem rec_num {f : Nat} {op : List UInt8} (h : f ≤ 9007199254740991) : getNum (codeNum (f : Int) ++ op) 0 = some (f, (codeNum (f : Int)).length) := by
  have hn := getNum_put [] op (f : Int) (isNum_of h)
  simp only [List.nil_append, List.length_nil, Int.toNat_natCast, Nat.zero_add] at hn
  exact hn
theorem recL_fol : ∀ (ops : List (List UInt8)) (f : Nat), (∀ op ∈ ops, 1 ≤ op.length) → f + ops.length ≤ 9007199254740991 → followL (recL f ops) f = ops
  | [], _, _, _ => rfl
  | op :: ops, f, h, hf => by
    have h1 := h op List.mem_cons_self
    rw [List.length_cons] at hf
    have hg := rec_num (f := f) (op := op) (by omega)
    have hx : folNext (codeNum (f : Int) ++ op) f = some true := by
      unfold folNext
      rw [hg]
      simp only [List.length_append]
      rw [if_neg (by omega), if_neg (by omega)]
    have ho : folOp (codeNum (f : Int) ++ op) = op := by
      unfold folOp
      rw [hg]
      simp [nextOf]
    rw [recL, followL, hx]
    simp only []
    rw [ho, recL_fol ops (f + 1) (fun x hx => h x (List.mem_cons_of_mem _ hx)) (by omega)]
theorem recL_elder : ∀ (ops : List (List UInt8)) (f : Nat), f + ops.length ≤ 9007199254740991 → elderL (recL f ops) f = false
  | [], _, _ => rfl
  | op :: ops, f, hf => by
    rw [List.length_cons] at hf
    have hg := rec_num (f := f) (op := op) (by omega)
    unfold elderL
    rw [recL, List.all_cons, hg]
    simp
theorem showsB_beyond {l b : List UInt8} {p q : Nat} (hl : p + b.length ≤ l.length) (hp : 2 * q ≤ p) : showsB (splice l p b) 0 q = showsB l 0 q := by
  unfold showsB
  rw [piece_other (by omega) hl (by omega), piece_other (by omega) hl (by omega)]
theorem bytes_calm {d : DSt} (hw : d.waits = []) : d.bytes = d.lasts := by unfold DSt.bytes; rw [hw]; rfl
theorem shows_write {d : DSt} {p q : Nat} {b : List UInt8} (hw : d.waits = []) (hl : p + b.length ≤ d.lasts.length) (hp : 2 * q ≤ p) : (d.write (p : Int) b).shows 0 q = d.shows 0 q := by
  rw [shows_is, shows_is, write_in hl]
  show showsB (dAll d.lasts (d.waits ++ [(p, b)])) 0 q = _
  rw [hw, bytes_calm hw]
  exact showsB_beyond hl hp
theorem shows_sync (d : DSt) (q : Nat) : d.sync.shows 0 q = d.shows 0 q := by rw [shows_is, shows_is, DSt.sync_bytes]
theorem shows_nought {d : DSt} {q sz u : Nat} (hw : d.waits = []) (hr : 2 * q + sz ≤ d.lasts.length) (hu : u ≤ sz) : (d.nought (2 * q) sz u).shows 0 q = d.shows 0 q := by
  unfold DSt.nought
  rw [shows_sync, shows_write hw (by rw [List.length_replicate]; omega) (by omega)]
structure JGeo (N q sz : Nat) : Prop where
  q16 : 16 ≤ q
  sum : 2 * q + sz = N
  sz32 : 32 ≤ sz
  big : N ≤ 65536
structure JInv (N q sz : Nat) (d : DSt) (used : Nat) (o : Option (List UInt8 × Nat)) (ops : List (List UInt8)) (k : Nat) : Prop where
  log : LogInv d (2 * q) sz used (recL (picA o) ops)
  shows : d.shows 0 q = o
  waits : d.waits = []
  len : d.lasts.length = N
  syncs : d.syncs ≤ 4 * k
  ne : ∀ op ∈ ops, 1 ≤ op.length ∧ op.length ≤ 3900
  few : picA o + ops.length ≤ k
section
variable {N q sz used k : Nat} {d : DSt} {o : Option (List UInt8 × Nat)} {ops : List (List UInt8)}
/-- The disk behind opening. -/
theorem jOpen_is (G : JGeo N q sz) (hw : d.waits = []) (hl : d.lasts.length = N) (hs : d.shows 0 q = o) (ha : fAll (piece d.bytes (2 * q) sz) 0 = (recL (picA o) ops, (used : Int))) (hy : d.syncs ≤ 4 * k) (hne : ∀ op ∈ ops, 1 ≤ op.length ∧ op.length ≤ 3900) (hf : picA o + ops.length ≤ k) (hk : k ≤ 1000000000) :
    jPic d q sz = o ∧ jOps d q sz = ops ∧ jUsed d q sz = used ∧ JInv N q sz (jDisk d q sz) used o ops (k + 1) := by
  have hfit : ∀ x ∈ d.waits, x.1 + x.2.length ≤ d.lasts.length := fun x hx => by rw [hw] at hx; cases hx
  have hroom : 2 * q + sz ≤ d.lasts.length := by rw [hl, G.sum]; exact Nat.le_refl _
  obtain ⟨d', e1, e2, e3, e4, e5, e6⟩ := openInv hfit hroom ha
  have hR : jRecs d q sz = recL (picA o) ops := by rw [jRecs, ha]
  have hD1 : jDisk1 d q sz = d' := by rw [jDisk1, hR, e6, e1]
  have hS : d'.shows 0 q = o := by rw [← e1, shows_nought hw hroom e2.le, hs]
  have hP : jPic d q sz = o := by rw [jPic, hD1, hS]
  have hO : jOps d q sz = ops := by rw [jOps, hR, hP, recL_fol ops _ (fun x hx => (hne x hx).1) (by omega)]
  have hE : jElder d q sz = false := by rw [jElder, hR, hP, recL_elder ops _ (by omega)]
  have hD : jDisk d q sz = d' := by rw [jDisk, hE, hD1]; rfl
  refine ⟨hP, hO, by rw [jUsed, hE, hR, e6]; rfl, ?_⟩
  rw [hD]
  exact ⟨e2, hS, e3, by rw [e5, hl], by omega, hne, by omega⟩
theorem JInv.open_ (h : JInv N q sz d used o ops k) (G : JGeo N q sz) (hk : k ≤ 1000000000) : jPic d q sz = o ∧ jOps d q sz = ops ∧ jUsed d q sz = used ∧ JInv N q sz (jDisk d q sz) used o ops (k + 1) :=
  jOpen_is G h.waits h.len h.shows h.log.all h.syncs h.ne h.few hk
def jCnt (o : Option (List UInt8 × Nat)) (ops : List (List UInt8)) : Int := ((picA o + ops.length : Nat) : Int)
theorem jRoom_is {l : List UInt8} {c : Int} (h1 : 1 ≤ l.length) (h2 : l.length ≤ 3900) : jRoom sz used c l.length = decide ((frameB (codeNum c ++ l)).length + used ≤ sz) := by
  have hc := codeNum_len c
  unfold jRoom
  rw [decide_eq_true (show (1 : Int) ≤ l.length by omega), decide_eq_true (show (l.length : Int) ≤ 3900 by omega), Bool.true_and, Bool.true_and]
  rw [← frame_room (p := codeNum c ++ l) (by rw [List.length_append]; omega) (by rw [List.length_append]; omega)]
  congr 1
  rw [List.length_append]; omega
theorem jRoom_no {l : List UInt8} {c : Int} (h : l.length = 0 ∨ 3900 < l.length) : jRoom sz used c l.length = false := by
  unfold jRoom
  rcases h with h | h
  · rw [h]; rfl
  · rw [decide_eq_false (show ¬ (l.length : Int) ≤ 3900 by omega)]; simp
/-- Start, where there is room. -/
theorem JInv.start (h : JInv N q sz d used o ops k) {l : List UInt8} (hr : jRoom sz used (jCnt o ops) l.length = true) :
    1 ≤ l.length ∧ l.length ≤ 3900 ∧ (frameB (codeNum (jCnt o ops) ++ l)).length + used ≤ sz ∧ jStart d (2 * q) sz used (jCnt o ops) l = (0, d.write ((2 * q + used : Nat) : Int) (frameB (codeNum (jCnt o ops) ++ l)), used + (frameB (codeNum (jCnt o ops) ++ l)).length, jCnt o ops + 1) := by
  have hc := codeNum_len (jCnt o ops)
  by_cases h0 : l.length = 0 ∨ 3900 < l.length
  · rw [jRoom_no h0] at hr; cases hr
  have hf : (frameB (codeNum (jCnt o ops) ++ l)).length + used ≤ sz := by rw [jRoom_is (by omega) (by omega)] at hr; simpa using hr
  refine ⟨by omega, by omega, hf, ?_⟩
  unfold jStart
  rw [if_neg h0, if_neg (by rw [hr]; simp), logPut_ok (by rw [List.length_append]; omega) (by rw [List.length_append]; omega) hf]
theorem jStart_no {l : List UInt8} {c : Int} (hr : jRoom sz used c l.length = false) : ((jStart d (2 * q) sz used c l).1 = 1 ∨ (jStart d (2 * q) sz used c l).1 = 3) ∧ (jStart d (2 * q) sz used c l).2 = (d, used, c) := by
  unfold jStart
  split
  · exact ⟨.inl rfl, rfl⟩
  · first | exact ⟨.inr rfl, rfl⟩ | (rw [if_pos hr]; exact ⟨.inr rfl, rfl⟩)
theorem cnt_step (o : Option (List UInt8 × Nat)) (ops : List (List UInt8)) (l : List UInt8) : jCnt o ops + 1 = jCnt o (ops ++ [l]) := by unfold jCnt; rw [List.length_append]; simp; omega
theorem JInv.put (h : JInv N q sz d used o ops k) (G : JGeo N q sz) {l : List UInt8} (h1 : 1 ≤ l.length) (h2 : l.length ≤ 3900) (hf : (frameB (codeNum (jCnt o ops) ++ l)).length + used ≤ sz) :
    LogInv (d.write ((2 * q + used : Nat) : Int) (frameB (codeNum (jCnt o ops) ++ l))) (2 * q) sz (used + (frameB (codeNum (jCnt o ops) ++ l)).length) (recL (picA o) (ops ++ [l])) ∧ (d.write ((2 * q + used : Nat) : Int) (frameB (codeNum (jCnt o ops) ++ l))).shows 0 q = o := by
  have hc := codeNum_len (jCnt o ops)
  have hi := h.log.put (p := codeNum (jCnt o ops) ++ l) (by rw [List.length_append]; omega) (by rw [List.length_append]; omega) hf
  have hg := G.sum
  refine ⟨by rw [recL_app]; exact hi, by rw [shows_write h.waits (by rw [h.len]; omega) (by omega)]; exact h.shows⟩
theorem JInv.app (h : JInv N q sz d used o ops k) (G : JGeo N q sz) {l : List UInt8} (hr : jRoom sz used (jCnt o ops) l.length = true) :
    ∃ d' used', jAppend d (2 * q) sz used (jCnt o ops) l = (0, d', used', jCnt o (ops ++ [l])) ∧ used' = used + (frameB (codeNum (jCnt o ops) ++ l)).length ∧ JInv N q sz d' used' o (ops ++ [l]) (k + 1) := by
  obtain ⟨h1, h2, hf, e⟩ := h.start hr
  obtain ⟨i1, i2⟩ := h.put G h1 h2 hf
  refine ⟨_, _, ?_, rfl, i1.sync.1, by rw [shows_sync]; exact i2, rfl, by rw [i1.sync.2, DSt.write_lasts]; exact h.len, ?_, ?_, ?_⟩
  · unfold jAppend
    rw [e, ← cnt_step]
    rfl
  · show (d.write _ _).syncs + 1 ≤ _
    rw [DSt.write_syncs]
    have := h.syncs; omega
  · intro op hop
    rcases List.mem_append.1 hop with hop | hop
    · exact h.ne op hop
    · simp only [List.mem_singleton] at hop; subst hop; exact ⟨h1, h2⟩
  · rw [List.length_append, List.length_singleton]; have := h.few; omega
theorem slStart_bad {b : List UInt8} {A : Int} {fr z : Nat} (h : (slStart d fr z b A).1 ≠ 0) : (slStart d fr z b A).2 = d := by
  unfold slStart at h ⊢
  split
  · rfl
  split
  · rfl
  split
  · rfl
  · rename_i h1 h2 h3
    rw [if_neg h1, if_neg h2, if_neg h3] at h
    exact absurd rfl h
theorem JInv.compact (h : JInv N q sz d used o ops k) (G : JGeo N q sz) (p : List UInt8) :
    (jAge o ≠ jCnt o ops ∧ Takes d 0 q p (picA o + ops.length) ∧ ∃ d', jCompact d q (2 * q) sz used (jCnt o ops) (jAge o) p = (0, d', 0, jAge (some (p, picA o + ops.length))) ∧ JInv N q sz d' 0 (some (p, picA o + ops.length)) [] (k + 1)) ∨
    ((jAge o = jCnt o ops ∨ ¬ Takes d 0 q p (picA o + ops.length)) ∧ jCompact d q (2 * q) sz used (jCnt o ops) (jAge o) p = (3, d, used, jAge o)) := by
  have hS : SInv d 0 q N := ⟨h.waits, h.len, by have := G.sum; omega⟩
  unfold jCompact
  by_cases ha : jAge o = jCnt o ops
  · rw [if_pos ha]; exact .inr ⟨.inl ha, rfl⟩
  rw [if_neg ha]
  by_cases h0 : (slStart d 0 q p (jCnt o ops)).1 = 0
  · obtain ⟨A, eA, t⟩ := slStart_inv h0
    have eA' : A = picA o + ops.length := by unfold jCnt at eA; omega
    subst eA'
    obtain ⟨s1, s2, s3, s4⟩ := t.save hS
    have s1' : (slSave d 0 q p (jCnt o ops)).1 = 0 := s1
    rw [if_pos s1']
    refine .inl ⟨ha, t, _, rfl, ?_⟩
    have hfit : ∀ x ∈ (slSave d 0 q p (jCnt o ops)).2.waits, x.1 + x.2.length ≤ (slSave d 0 q p (jCnt o ops)).2.lasts.length := fun x hx => by
      rw [show (slSave d 0 q p (jCnt o ops)).2.waits = [] from s2.waits] at hx; cases hx
    have hroom : 2 * q + sz ≤ (slSave d 0 q p (jCnt o ops)).2.lasts.length := by rw [show (slSave d 0 q p (jCnt o ops)).2.lasts.length = N from s2.len, G.sum]; exact Nat.le_refl _
    obtain ⟨n1, n2, n3, n4⟩ := nought_len (u := 0) hfit hroom (Nat.zero_le _)
    refine ⟨⟨(fun x hx => by rw [n2] at hx; cases hx), by rw [n1]; exact hroom, rfl, Nat.zero_le _, (by simp [recL]), by rw [n4]; simp [recL]⟩, ?_, n2, by rw [n1]; exact s2.len, ?_, by simp, by have := h.few; show (picA o + ops.length) + 0 ≤ k + 1; omega⟩
    · show ((slSave d 0 q p ((picA o + ops.length : Nat) : Int)).2.nought (2 * q) sz 0).shows 0 q = _
      rw [shows_nought s2.waits hroom (Nat.zero_le _)]; exact s3
    · rw [n3]
      have : (slSave d 0 q p (jCnt o ops)).2.syncs = d.syncs + 2 := s4
      have := h.syncs
      omega
  · have hb := slStart_bad h0
    have hs : (slSave d 0 q p (jCnt o ops)).1 = (slStart d 0 q p (jCnt o ops)).1 := rfl
    have hs2 : (slSave d 0 q p (jCnt o ops)).2 = d := by
      unfold slSave
      simp only
      rw [if_neg h0, hb]
    rw [if_neg (by rw [hs]; exact h0), hs2]
    refine .inr ⟨.inr (fun t => h0 ?_), rfl⟩
    exact (t.after hS).1
/-- A Start that a crash tears. -/
theorem JInv.torn (h : JInv N q sz d used o ops k) (G : JGeo N q sz) {l : List UInt8} (hr : jRoom sz used (jCnt o ops) l.length = true) (keep : Int) (hk : k ≤ 100000000) :
    (jStart d (2 * q) sz used (jCnt o ops) l).1 = 0 ∧ (dWaits (jStart d (2 * q) sz used (jCnt o ops) l).2.1.waits : Int) = (frameB (codeNum (jCnt o ops) ++ l)).length ∧ (jStart d (2 * q) sz used (jCnt o ops) l).2.1.waits.length ≤ 1 ∧
    ∃ u ops', ops' = (if ((frameB (codeNum (jCnt o ops) ++ l)).length : Int) ≤ keep then ops ++ [l] else ops) ∧ u ≤ used + (frameB (codeNum (jCnt o ops) ++ l)).length ∧
      jPic ((jStart d (2 * q) sz used (jCnt o ops) l).2.1.crash keep) q sz = o ∧ jOps ((jStart d (2 * q) sz used (jCnt o ops) l).2.1.crash keep) q sz = ops' ∧ jUsed ((jStart d (2 * q) sz used (jCnt o ops) l).2.1.crash keep) q sz = u ∧
      ((jStart d (2 * q) sz used (jCnt o ops) l).2.1.crash keep).lasts.length = N ∧ ((jStart d (2 * q) sz used (jCnt o ops) l).2.1.crash keep).waits = [] ∧ ((jStart d (2 * q) sz used (jCnt o ops) l).2.1.crash keep).syncs = d.syncs ∧
      JInv N q sz (jDisk ((jStart d (2 * q) sz used (jCnt o ops) l).2.1.crash keep) q sz) u o ops' (k + 2) := by
  obtain ⟨h1, h2, hf, e⟩ := h.start hr
  have hc := codeNum_len (jCnt o ops)
  have hg := G.sum
  obtain ⟨F, hF⟩ : ∃ F, frameB (codeNum (jCnt o ops) ++ l) = F := ⟨_, rfl⟩
  have ht := h.log.torn h.waits (p := codeNum (jCnt o ops) ++ l) (by rw [List.length_append]; omega) (by rw [List.length_append]; omega) hf keep
  rw [hF] at ht hf e ⊢
  rw [e]
  simp only
  have hin : 2 * q + used + F.length ≤ d.lasts.length := by rw [h.len]; omega
  obtain ⟨c1, c2, c3, c4⟩ := crash_one (d := d) (k := 2 * q + used) (f := F) h.waits hin keep
  have hsh : ((d.write ((2 * q + used : Nat) : Int) F).crash keep).shows 0 q = o := by
    rw [shows_is, c1, showsB_beyond (by rw [List.length_take]; omega) (by omega), ← h.shows, shows_is, bytes_calm h.waits]
  have hw1 : (d.write ((2 * q + used : Nat) : Int) F).waits = [(2 * q + used, F)] := by rw [write_in hin, h.waits]; rfl
  refine ⟨trivial, by rw [hw1]; simp [dWaits], by rw [hw1]; simp, ?_⟩
  by_cases hk2 : (F.length : Int) ≤ keep
  · rw [if_pos hk2] at ht ⊢
    rw [show recL (picA o) ops ++ [codeNum (jCnt o ops) ++ l] = recL (picA o) (ops ++ [l]) from (recL_app l ops _).symm] at ht
    obtain ⟨r1, r2, r3, r4⟩ := jOpen_is (k := k + 1) G c3 (by rw [c2, h.len]) hsh ht (by rw [c4]; have := h.syncs; omega) (by
      intro op hop
      rcases List.mem_append.1 hop with hop | hop
      · exact h.ne op hop
      · simp only [List.mem_singleton] at hop; subst hop; exact ⟨h1, h2⟩) (by rw [List.length_append, List.length_singleton]; have := h.few; omega) (by omega)
    exact ⟨_, _, rfl, Nat.le_refl _, r1, r2, r3, by rw [c2, h.len], c3, c4, r4⟩
  · rw [if_neg hk2] at ht ⊢
    obtain ⟨r1, r2, r3, r4⟩ := jOpen_is (k := k + 1) G c3 (by rw [c2, h.len]) hsh ht (by rw [c4]; have := h.syncs; omega) h.ne (by have := h.few; omega) (by omega)
    exact ⟨_, _, rfl, Nat.le_add_right _ _, r1, r2, r3, by rw [c2, h.len], c3, c4, r4⟩
/-- A new disk. -/
theorem jNew (G : JGeo N q sz) : ∃ D, DSt.new N = D ∧ D.waits = [] ∧ D.lasts.length = N ∧ D.syncs = 0 ∧ jPic D q sz = none ∧ jOps D q sz = [] ∧ jUsed D q sz = 0 ∧ JInv N q sz (jDisk D q sz) 0 none [] 1 := by
  have hg := G.sum
  obtain ⟨D, e1, e2, e3, e4⟩ := new_shows (N := N) (fr := 0) (sz := q) (by omega)
  obtain ⟨D', f1, f2, f3, f4, f5, f6⟩ := new_is (N := N) (fr := 2 * q) (sz := sz) (by omega)
  have : D' = D := by rw [← f1, e1]
  subst this
  obtain ⟨r1, r2, r3, r4⟩ := jOpen_is (k := 0) (ops := []) G e2.waits e2.len e4 (by exact f3) (by omega) (by simp) (by simp [picA]) (by omega)
  exact ⟨D', e1, e2.waits, e2.len, e3, r1, r2, r3, r4⟩
end
end Go.Proofs.Ytmfbbonppmhabaa
