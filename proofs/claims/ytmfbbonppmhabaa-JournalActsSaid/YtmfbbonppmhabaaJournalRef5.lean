/- The document's journal (dunnageref07): Open. -/
import Derived.Test.YtmfbbonppmhabaaJournalRef4
import Derived.Test.YtmfbbonppmhabaaJournalRefMath
import Derived.Deep.CutRange
namespace Go.Proofs.Ytmfbbonppmhabaa
set_option linter.unusedVariables false
set_option linter.unusedSimpArgs false
open Go.RowKit
def dOld (f : Nat) (s : DocS) (R : List UInt8) : Bool := ((getNum R 0).isSome && decide (numOf (getNum R 0) < (s.cnt : Int))) && decide (s.ops.length = 0) && decide (numOf (getNum R 0) < (f : Int))
theorem docStep_eq {f : Nat} {s : DocS} (hc : f ≤ s.cnt) (R : List UInt8) :
    docStep f s R = if s.stop = true ∨ ((getNum R 0).isSome = true ∧ numOf (getNum R 0) < (s.cnt : Int)) ∧ nextOf (getNum R 0) < (R.length : Int) then ⟨s.ops, s.cnt, if dOld f s R = true then s.old + 1 else s.old, s.stop⟩
      else if (getNum R 0).isSome = false ∨ numOf (getNum R 0) ≠ (s.cnt : Int) ∨ (R.length : Int) = nextOf (getNum R 0) then ⟨s.ops, s.cnt, if dOld f s R = true then s.old + 1 else s.old, true⟩
      else ⟨s.ops ++ [folOp R], s.cnt + 1, if dOld f s R = true then s.old + 1 else s.old, false⟩ := by
  have ho : (if elder1 R f = true ∧ s.ops = [] then s.old + 1 else s.old) = if dOld f s R = true then s.old + 1 else s.old := by
    have : (elder1 R f = true ∧ s.ops = []) ↔ dOld f s R = true := by
      unfold elder1 dOld
      rw [Bool.and_eq_true, Bool.and_eq_true, Bool.and_eq_true, decide_eq_true_iff, decide_eq_true_iff, decide_eq_true_iff, List.length_eq_zero_iff]
      cases getNum R 0 with
      | none => exact ⟨(fun h => by cases h.1), (fun h => by cases h.1.1.1)⟩
      | some p =>
        show (decide (p.1 < f) = true ∧ _) ↔ (((_ ∧ (p.1 : Int) < s.cnt) ∧ _) ∧ (p.1 : Int) < f)
        rw [decide_eq_true_iff]
        exact ⟨fun h => ⟨⟨⟨rfl, by have := h.1; omega⟩, h.2⟩, by have := h.1; omega⟩, fun h => ⟨by have := h.2; omega, h.1.2⟩⟩
    by_cases h : dOld f s R = true
    · rw [if_pos h, if_pos (this.2 h)]
    · rw [if_neg h, if_neg (fun e => h (this.1 e))]
  unfold docStep
  rw [ho]
  generalize (if dOld f s R = true then s.old + 1 else s.old) = O
  by_cases hs : s.stop = true
  · rw [if_pos hs, if_pos (.inl hs), hs]
  rw [if_neg hs]
  have hsf : s.stop = false := by simpa using hs
  unfold folNext folOp
  cases hg : getNum R 0 with
  | none =>
    rw [if_neg (fun h => h.elim hs (fun h => by cases h.1.1)), if_pos (.inl rfl)]
  | some p =>
    show (match (if p.1 < s.cnt ∧ p.2 < R.length then some false else if p.1 ≠ s.cnt ∨ R.length = p.2 then none else some true) with
      | none => _ | some false => _ | some true => _) = if s.stop = true ∨ (true = true ∧ (p.1 : Int) < s.cnt) ∧ (p.2 : Int) < R.length then _ else if true = false ∨ (p.1 : Int) ≠ s.cnt ∨ (R.length : Int) = (p.2 : Int) then _ else _
    by_cases h1 : p.1 < s.cnt ∧ p.2 < R.length
    · rw [if_pos h1, if_pos (.inr ⟨⟨rfl, by omega⟩, by omega⟩), hsf]
    · rw [if_neg h1, if_neg (show ¬ (s.stop = true ∨ (true = true ∧ (p.1 : Int) < s.cnt) ∧ (p.2 : Int) < R.length) from fun h => h.elim hs (fun h => h1 ⟨by have := h.1.2; omega, by have := h.2; omega⟩))]
      by_cases h2 : p.1 ≠ s.cnt ∨ R.length = p.2
      · rw [if_pos h2, if_pos (.inr (h2.elim (fun h => .inl (by omega)) (fun h => .inr (by omega))))]
      · rw [if_neg h2, if_neg (fun h => h.elim (fun h => by cases h) (fun h => h2 (h.elim (fun h => .inl (by omega)) (fun h => .inr (by omega)))))]
def RJOpenPost (w0 : World) (tl : List Thing) (pr : Value) (q sz : Nat) (D : RD) (o : Option (List UInt8 × Nat)) (ps ps' : List (List UInt8)) (e : Ending) (w' : World) : Prop :=
  ∃ gm gs gl aP cP aO cO aL cL xs ys, e = .returned (.tuple #[(.pointer (some ⟨gm, 0, none⟩)), .slice aP (picL o).length cP, .slice aO ys.length cO, .bool true]) ∧ ((picL o).length ≤ cP ∧ cP ≤ maxLen ∧ (aP = none → cP = 0)) ∧ (ys.map BS.l = followL ps (picA o) ∧ ∀ y ∈ ys, BS.Hd y) ∧ (xs.map BS.l = ps' ∧ ∀ x ∈ xs, BS.Hd x) ∧
    St w0 w' (cellsT gm 51 (rjC (.pointer (some ⟨gs, 0, none⟩)) (.pointer (some ⟨gl, 0, none⟩)) (((picA o + ys.length : Nat) : Int)) (picI o)) :: cellsT gl 90 (rlogC pr (2 * q) sz (.slice aL xs.length cL)) :: rdT pr D :: rowsT eS bsRefs (.slice aL xs.length cL) xs :: cellsT gs 108 (rslotC pr 0 q) :: roT aP (picL o) :: rowsT eS bsRefs (.slice aO ys.length cO) ys :: tl)
def rjD (q sz : Nat) (D : RD) (b : Bool) : RD := if b = true then D.nought (2 * q) sz 0 else D
def rjPs (ps : List (List UInt8)) (b : Bool) : List (List UInt8) := if b = true then [] else ps
section
variable {w0 w : World} {tl : List Thing} {pr : Value} {r : RD} {q sz : Nat} {o : Option (List UInt8 × Nat)}
set_option maxRecDepth 10000 in
set_option maxHeartbeats 3200000 in
theorem rjOpen_yes (S : St w0 w (rdT pr r :: tl)) (N : Nat) (hN : r.b.length = N) (h64 : 64 ≤ N) (hN2 : N ≤ 65536) (hq : q = N / 4) (hz : sz = N - 2 * q) (hps : r.ps.length ≤ 10000000) (hs : r.syncs < 1000000) (hbl : r.bytes.length = N)
    {ps : List (List UInt8)} {used : Nat} (hA : fAll (piece r.bytes (2 * q) sz) 0 = (ps, (used : Int))) (hu : used ≤ sz) (hbl2 : (r.nought (2 * q) sz used).bytes.length = N)
    (ho : loadO (pic (piece (r.nought (2 * q) sz used).bytes (0 + 0 * q) q)) (pic (piece (r.nought (2 * q) sz used).bytes (0 + 1 * q) q)) = o) (hpa : picA o ≤ 9007199254740991) (hpl : ps.length ≤ 65536) :
    Calls Try.prog 16 #[pr] w fun e w' => RJOpenPost w0 tl pr q sz (rjD q sz (r.nought (2 * q) sz used) (elderL ps (picA o))) o ps (rjPs ps (elderL ps (picA o))) e w' := by
  have hlen := RD.write_len r ((2 * q + used : Nat) : Int) (List.replicate (sz - used) 0)
  obtain ⟨D1, hD1⟩ : ∃ D1, r.nought (2 * q) sz used = D1 := ⟨_, rfl⟩
  have hB1 : D1.b.length = N ∧ D1.ps = [] ∧ D1.syncs = r.syncs + 1 := by
    rw [← hD1]
    refine ⟨?_, rfl, by show (r.write _ _).syncs + 1 = _; rw [hlen.2.1]⟩
    show (rdSet _ _).length = _
    rw [rdSet_len, hlen.2.2, hN]
  rw [hD1] at ho hbl2 ⊢
  have HA := hid hA
  have HN := hid hN
  have HBl := hid hbl
  have HO := hid ho
  have HBl2 := hid hbl2
  have HD1 := hid hD1
  have HB1 := hid hB1
  obtain ⟨hok, gr, vb, va, vv, rfl, S1⟩ := S.rdOpen
  obtain ⟨ab, cb, eb, hb1, hb2, hb3, hb4⟩ := S1.sl 1 rfl
  subst eb
  have c0 := S1.cell 0 rfl 0 rfl
  rw [hN] at c0
  have g0 : decide ((N : Int) < 64) = false := decide_eq_false (by omega)
  have g0n : decide (N < 64) = false := decide_eq_false (by omega)
  have HQI : Hid ((N : Int) / 4 = (q : Int)) := by rw [Hid]; omega
  have HB : Hid (16 ≤ q ∧ sz + 2 * q = N ∧ 32 ≤ sz) := by rw [Hid]; omega
  have HM2 : Hid ((N : Int) - 2 * (q : Int) = (sz : Int)) := by rw [Hid]; omega
  have HM1 : Hid (2 * (q : Int) = ((2 * q : Nat) : Int)) := by rw [Hid]; omega
  have hq16 : q ≤ 16384 := by omega
  clear hb1 hb2 hb3 hb4 hok hA hbl ho hbl2 hD1 hB1 hN hlen hq hz
  go_enter Try.func16, Try.ntmps16
  go_wp2_with fail
  rw [HQI.out]
  clear S1
  refine (rslOpen_yes S 0 q (by have := HB.out; omega) (by rw [HN.out]; have := HB.out; omega)).mono ?_
  rintro e w1 ⟨gs, rfl, S1⟩
  have c1 := c0
  clear c0
  obtain ⟨-, gr', vb', va', vv', er, S1'⟩ := (S1.front 1 rfl).rdOpen
  cases er
  obtain ⟨ab', cb', eb, hb1, hb2, hb3, hb4⟩ := S1'.sl 1 rfl
  subst eb
  have c0 := S1'.cell 0 rfl 0 rfl
  rw [HN.out] at c0
  clear hb1 hb2 hb3 hb4 S1'
  go_wp2_with fail
  rw [HQI.out, HM2.out, HM1.out]
  refine (rOpen_yes (S1.front 1 rfl) (2 * q) sz (by have := HB.out; omega) (by rw [HN.out]; have := HB.out; omega) hps (by omega) (by rw [HBl.out, HN.out]) HA.out hu).mono ?_
  rintro e w2 ⟨gl, aL, cL, recs, rfl, hxs, hhd, S2⟩
  rw [HD1.out] at S2
  have HXs := hid hxs
  have HHd := hid hhd
  have HSm : Hid (∀ x ∈ recs, x.l.length ≤ 4000) := fun x hx => by
    have h1 := (fAll_is (piece r.bytes (2 * q) sz)).1
    rw [HA.out] at h1
    exact (h1 x.l (by rw [← hxs]; exact List.mem_map.2 ⟨x, hx, rfl⟩)).2
  obtain ⟨n, hn⟩ : ∃ n, recs.length = n := ⟨_, rfl⟩
  rw [hn] at S2
  have HNr := hid hn
  have HPs : Hid (ps.length = n) := by rw [Hid, ← hn, ← hxs, List.length_map]
  have hn1 : n ≤ 65536 := by rw [← HPs.out]; exact hpl
  clear hxs hhd hn c0 c1 S1
  have S3 : St w0 w2 (cellsT gs 108 (rslotC (.pointer (some ⟨gr, 0, none⟩)) 0 q) :: rdT (.pointer (some ⟨gr, 0, none⟩)) D1 :: cellsT gl 90 (rlogC (.pointer (some ⟨gr, 0, none⟩)) (2 * q) sz (.slice aL n cL)) :: rowsT eS bsRefs (.slice aL n cL) recs :: tl) := (S2.front 1 rfl).front 3 rfl
  go_wp2_with fail
  have hL := rslLoad_any S3 (by rw [HB1.out.1]; have := HB.out; omega) (by rw [HB1.out.2.1]; simp) (by rw [HBl2.out, HB1.out.1])
  rw [HO.out] at hL
  refine hL.mono ?_
  clear hL
  rintro e w3 ⟨aP, cP, rfl, hp1, hp2, hp3, S4⟩
  have HP := hid (And.intro hp1 (And.intro hp2 hp3))
  clear hp1 hp2 hp3 S2 S3
  obtain ⟨gm, hgm⟩ : ∃ gm, w3.heap.size = gm := ⟨_, rfl⟩
  have S5 := S4.laid 51 #[(.pointer (some ⟨gs, 0, none⟩)), (.pointer (some ⟨gl, 0, none⟩)), .int .i64 0, .int .i64 (picI o)] gm hgm
  obtain ⟨w4, hw4⟩ : ∃ w4, w3.alloc (.cells #[(.pointer (some ⟨gs, 0, none⟩)), (.pointer (some ⟨gl, 0, none⟩)), .int .i64 0, .int .i64 (picI o)] 51) = w4 := ⟨_, rfl⟩
  rw [hw4] at S5
  go_upto_if 60 with fail
  clear hgm hw4 S4
  go_cut [] from 22 to 64 (fun wc => St w0 wc (cellsT gm 51 (rjC (.pointer (some ⟨gs, 0, none⟩)) (.pointer (some ⟨gl, 0, none⟩)) ((picA o : Int)) (picI o)) :: roT aP (picL o) :: cellsT gs 108 (rslotC (.pointer (some ⟨gr, 0, none⟩)) 0 q) :: rdT (.pointer (some ⟨gr, 0, none⟩)) D1 :: cellsT gl 90 (rlogC (.pointer (some ⟨gr, 0, none⟩)) (2 * q) sz (.slice aL n cL)) :: rowsT eS bsRefs (.slice aL n cL) recs :: tl))
  case first =>
    generalize hpb : decide (0 < picI o) = pb
    cases pb
    · have E : Hid ((picA o : Int) = 0) := by
        have h := of_decide_eq_false hpb
        rw [Hid]
        cases o with
        | none => rfl
        | some p => have : ¬ (0 : Int) < (p.2 : Int) := h; show (p.2 : Int) = 0; omega
      have HPB := hid hpb
      clear hpb
      go_wp2_with fail
      go_meet
      rw [E.out]; exact S5
    · have E : Hid ((picA o : Int) = picI o) := by
        have h := of_decide_eq_true hpb
        rw [Hid]
        cases o with
        | none => exact absurd h (by decide)
        | some p => rfl
      have HPB := hid hpb
      clear hpb
      have f4 := S5.frozen 0 rfl 2
      have c4 := S5.cell 0 rfl 2 rfl
      have S6 := S5.setCell 0 rfl 2 (.int .i64 (picI o))
      go_wp2_with fail
      go_meet
      rw [E.out]; exact S6
  case rest =>
  have S6 := hcut
  clear hcut S5
  obtain ⟨f, hf⟩ : ∃ f, picA o = f := ⟨_, rfl⟩
  obtain ⟨DL, hDL⟩ : ∃ DL : Nat → DocS, DL = fun k => docL f ⟨[], f, 0, false⟩ (ps.take k) := ⟨_, rfl⟩
  have S8 : St w0 wc (cellsT gm 51 (rjC (.pointer (some ⟨gs, 0, none⟩)) (.pointer (some ⟨gl, 0, none⟩)) (((DL 0).cnt : Int)) (picI o)) :: cellsT gl 90 (rlogC (.pointer (some ⟨gr, 0, none⟩)) (2 * q) sz (.slice aL n cL)) :: rowsT eS bsRefs (.slice aL n cL) recs :: rdT (.pointer (some ⟨gr, 0, none⟩)) D1 :: cellsT gs 108 (rslotC (.pointer (some ⟨gr, 0, none⟩)) 0 q) :: roT aP (picL o) :: rowsT eS bsRefs (.slice none 0 0) [] :: tl) := by
    rw [hDL, ← hf]
    exact (((((((S6.rowsNil (e := eS) (refs := bsRefs)).front 2 rfl).front 3 rfl).front 4 rfl).front 6 rfl).front 6 rfl).front 6 rfl)
  have hd0 : DL 0 = ⟨[], f, 0, false⟩ := by rw [hDL]; rfl
  have HDn : Hid (DL n = docL f ⟨[], f, 0, false⟩ ps) := by rw [Hid, hDL]; show docL _ _ (ps.take n) = _; rw [List.take_of_length_le (by rw [HPs.out]; exact Nat.le_refl _)]
  have HDs : Hid (∀ k (h : k < recs.length), DL (k + 1) = docStep f (DL k) (recs[k]).l) := by
    intro k h
    rw [hDL]
    show docL _ _ (ps.take (k + 1)) = docStep f (docL _ _ (ps.take k)) _
    rw [← docL_snoc, ← HXs.out, List.take_succ_eq_append_getElem (by rw [List.length_map]; exact h)]
    simp
  have HDb : Hid (∀ k, k ≤ n → (DL k).cnt = f + (DL k).ops.length ∧ (DL k).ops.length ≤ k ∧ (DL k).old ≤ k) := by
    intro k hk
    rw [hDL]
    have h1 := docL_ops f (ps.take k) ⟨[], f, 0, false⟩ rfl
    have h2 := docL_old f (ps.take k) ⟨[], f, 0, false⟩ (fun _ => rfl)
    have h3 := followL_le (ps.take k) f
    have h4 : ((ps.take k).filter fun r => elder1 r f).length ≤ (ps.take k).length := List.length_filter_le _ _
    have h5 : (ps.take k).length ≤ k := List.length_take_le _ _
    refine ⟨by show (docL _ _ _).cnt = _ + (docL _ _ _).ops.length; rw [h1.2, h1.1]; simp, by show (docL _ _ _).ops.length ≤ _; rw [h1.1]; simp; omega, ?_⟩
    have := h2.1
    show (docL _ _ _).old ≤ _
    simp only at this
    omega
  have HD0 := hid hd0
  have HF := hid hf
  have HI : Hid (∀ h : 0 < n, aL.isSome = true) := fun h => (S8.rowsAt eSok 2 rfl).2.2.2.2.1.ok (by rw [(S8.rowsAt eSok 2 rfl).1]; exact h)
  have hf9 : f ≤ 9007199254740991 := by rw [← hf]; exact hpa
  have HAg : Hid (∀ K : Int, 0 ≤ K → (decide (K < picI o) = decide (K < (f : Int)))) := by
    intro K hK
    rw [← hf]
    cases o with
    | none => exact decide_eq_decide.2 ⟨fun h => by have : K < -1 := h; omega, fun h => by have : K < (0 : Int) := h; omega⟩
    | some p => rfl
  clear hDL hd0 hf S6 hpa
  go_wp2_with fail
  go_loopw [14, 15, 16, 17, 18, 19, 20, 21] (fun v d st i z1 z2 z3 z4 wr => ∃ (k : Nat) (x1 x2 x3 x4 : Value) (aO : Option Addr) (cO : Nat) (ys : List BS), k ≤ n ∧ v = .slice aO ys.length cO ∧ d = .int .i64 ((DL k).old : Int) ∧ st = .bool (DL k).stop ∧ i = .int .i64 k ∧ z1 = x1 ∧ z2 = x2 ∧ z3 = x3 ∧ z4 = x4 ∧ (ys.map BS.l = (DL k).ops ∧ ∀ y ∈ ys, BS.Hd y) ∧ St w0 wr ([cellsT gm 51 (rjC (.pointer (some ⟨gs, 0, none⟩)) (.pointer (some ⟨gl, 0, none⟩)) (((DL k).cnt : Int)) (picI o)), cellsT gl 90 (rlogC (.pointer (some ⟨gr, 0, none⟩)) (2 * q) sz (.slice aL n cL)), rowsT eS bsRefs (.slice aL n cL) recs, rdT (.pointer (some ⟨gr, 0, none⟩)) D1, cellsT gs 108 (rslotC (.pointer (some ⟨gr, 0, none⟩)) 0 q), roT aP (picL o), rowsT eS bsRefs (.slice aO ys.length cO) ys] ++ tl)) (fun _ _ _ i _ _ _ _ _ => n - (intOf i).toNat)
  case atStart => exact ⟨0, _, _, _, _, none, 0, [], Nat.zero_le _, rfl, by rw [HD0.out]; rfl, by rw [HD0.out], rfl, rfl, rfl, rfl, rfl, ⟨by rw [HD0.out]; rfl, fun y hy => by cases hy⟩, S8⟩
  case round =>
    obtain ⟨k, x1, x2, x3, x4, aO, cO, ys, hk, rfl, rfl, rfl, rfl, rfl, rfl, rfl, rfl, ⟨hys, hyd⟩, Sk⟩ := hrel
    by_cases hlt : k < n
    case neg =>
      have g1 : decide ((k : Int) < (n : Int)) = false := decide_eq_false (by omega)
      have hkn : k = n := by omega
      rw [hkn] at hys Sk ⊢
      have HYs := hid (And.intro hys hyd)
      obtain ⟨el, hel⟩ : ∃ el, elderL ps f = el := ⟨_, rfl⟩
      have HEl : Hid ((decide (0 < ((DL n).old : Int)) && (((DL n).old : Int) == (n : Int))) = el) := by
        rw [Hid, ← hel, ← docL_elder f ps, ← HDn.out, HPs.out]
        congr 1
        · exact decide_eq_decide.2 (by omega)
        · rw [Bool.eq_iff_iff]; simp; omega
      have HE2 := hid hel
      have hopl : Hid ((DL n).ops = followL ps f) := by rw [Hid, HDn.out, (docL_ops f ps ⟨[], f, 0, false⟩ rfl).1]; rfl
      have hyl : ys.length = (DL n).ops.length := by rw [← hys, List.length_map]
      have HCnt : Hid (((DL n).cnt : Int) = ((picA o + ys.length : Nat) : Int)) := by rw [Hid, (HDb.out n (Nat.le_refl _)).1, HF.out, hyl]
      have HYf : Hid (ys.map BS.l = followL ps (picA o)) := by rw [Hid, HF.out, ← hopl.out]; exact hys
      rw [HCnt.out] at Sk
      have HEq : Hid (elderL ps (picA o) = el) := by rw [Hid, HF.out, hel]
      clear hkn hel hyl hys hyd hk hlt S8
      obtain ⟨old, hold⟩ : ∃ old, (DL n).old = old := ⟨_, rfl⟩
      rw [hold] at HEl ⊢
      generalize (DL n).stop = st at *
      clear hold HDs
      have q0 := Sk.cell 1 rfl 3 rfl
      generalize hb1 : decide ((0 : Int) < (old : Int)) = b1 at *
      generalize hb2 : ((old : Int) == (n : Int)) = b2 at *
      have hb1n : decide (0 < old) = b1 := by rw [← hb1]; exact decide_eq_decide.2 (by omega)
      cases b1
      · have E : el = false := by rw [← HEl.out]; rfl
        subst E
        clear HEl
        go_wp2
        (try simp only [Exit.inBlock, Exit.then]); refine bodyPost_ret (results_tmp4 rfl _ _ _) rfl ?_
        rw [HEq.out]
        refine ⟨gm, gs, gl, aP, cP, aO, cO, aL, cL, recs, ys, rfl, HP.out, ⟨HYf.out, HYs.out.2⟩, ⟨HXs.out, HHd.out⟩, ?_⟩
        rw [HNr.out]
        exact (((Sk.front 3 rfl).front 2 rfl).front 2 rfl)
      cases b2
      · have E : el = false := by rw [← HEl.out]; rfl
        subst E
        clear HEl
        go_wp2
        (try simp only [Exit.inBlock, Exit.then]); refine bodyPost_ret (results_tmp4 rfl _ _ _) rfl ?_
        rw [HEq.out]
        refine ⟨gm, gs, gl, aP, cP, aO, cO, aL, cL, recs, ys, rfl, HP.out, ⟨HYf.out, HYs.out.2⟩, ⟨HXs.out, HHd.out⟩, ?_⟩
        rw [HNr.out]
        exact (((Sk.front 3 rfl).front 2 rfl).front 2 rfl)
      · have E : el = true := by rw [← HEl.out]; rfl
        subst E
        clear HEl
        have S9 : St w0 wr (cellsT gl 90 (rlogC (.pointer (some ⟨gr, 0, none⟩)) (2 * q) sz (.slice aL n cL)) :: rdT (.pointer (some ⟨gr, 0, none⟩)) D1 :: rowsT eS bsRefs (.slice aL n cL) recs :: cellsT gm 51 (rjC (.pointer (some ⟨gs, 0, none⟩)) (.pointer (some ⟨gl, 0, none⟩)) (((picA o + ys.length : Nat) : Int)) (picI o)) :: cellsT gs 108 (rslotC (.pointer (some ⟨gr, 0, none⟩)) 0 q) :: roT aP (picL o) :: rowsT eS bsRefs (.slice aO ys.length cO) ys :: tl) := ((Sk.front 2 rfl).front 3 rfl).front 3 rfl
        clear Sk
        go_wp2_with fail
        refine (rClear_any (n := 0) (cL := 0) (aL := none) S9 (by have := HB.out; omega) (by rw [HB1.out.2.1]; simp) (by rw [HB1.out.2.2]; omega)).mono ?_
        rintro e w9 ⟨rfl, T1⟩
        go_wp2
        (try simp only [Exit.inBlock, Exit.then]); refine bodyPost_ret (results_tmp4 rfl _ _ _) rfl ?_
        rw [HEq.out]
        refine ⟨gm, gs, gl, aP, cP, aO, cO, none, 0, [], ys, rfl, HP.out, ⟨HYf.out, HYs.out.2⟩, ⟨rfl, fun x hx => by cases hx⟩, ?_⟩
        exact T1.front 3 rfl
    have g1 : decide ((k : Int) < (n : Int)) = true := decide_eq_true (by omega)
    have g1n : decide (k < n) = true := decide_eq_true hlt
    have hkl : k < recs.length := by rw [HNr.out]; exact hlt
    have HStep : Hid (DL (k + 1) = docStep f (DL k) (recs[k]).l) := HDs.out k hkl
    have i0 := fun wx => idxS aL n cL HI.out k k rfl hlt wx
    have HX : Hid (∀ w', St w0 w' ([cellsT gm 51 (rjC (.pointer (some ⟨gs, 0, none⟩)) (.pointer (some ⟨gl, 0, none⟩)) (((DL k).cnt : Int)) (picI o)), cellsT gl 90 (rlogC (.pointer (some ⟨gr, 0, none⟩)) (2 * q) sz (.slice aL n cL)), rowsT eS bsRefs (.slice aL n cL) recs, rdT (.pointer (some ⟨gr, 0, none⟩)) D1, cellsT gs 108 (rslotC (.pointer (some ⟨gr, 0, none⟩)) 0 q), roT aP (picL o), rowsT eS bsRefs (.slice aO ys.length cO) ys] ++ tl) → w'.cell? (adr aL k) = some (.slice recs[k].a recs[k].n recs[k].c) ∧ (BS.Hd recs[k] ∧ At w' recs[k].a recs[k].l)) := by
      intro w' S'
      have A := S'.rowsAt eSok 2 rfl
      exact ⟨A.2.2.2.2.1.cellS hkl, HHd.out _ (List.getElem_mem hkl), A.2.2.2.2.2 _ (List.getElem_mem hkl) _ (List.mem_singleton.2 rfl)⟩
    have HB2 := HDb.out k hk
    have hx4 := HSm.out _ (List.getElem_mem hkl)
    generalize recs[k] = x at *
    generalize adr aL k = A at *
    generalize DL k = s at *
    have HYs := hid (And.intro hys hyd)
    have hyl : ys.length = s.ops.length := by rw [← hys, List.length_map]
    obtain ⟨hc1, hc2, hc3⟩ := HB2
    have HCn : Hid (s.cnt = f + ys.length) := by rw [Hid, hyl]; exact hc1
    rw [docStep_eq (by omega)] at HStep
    have hcb : s.cnt ≤ f + k := by omega
    clear hc1
    generalize s.stop = st at *
    have HXd := (HX.out _ Sk).2.1
    obtain ⟨R, hR⟩ : ∃ R, x.l = R := ⟨_, rfl⟩
    have keep : ∀ {w' : World}, St w0 w' ([cellsT gm 51 (rjC (.pointer (some ⟨gs, 0, none⟩)) (.pointer (some ⟨gl, 0, none⟩)) ((s.cnt : Int)) (picI o)), cellsT gl 90 (rlogC (.pointer (some ⟨gr, 0, none⟩)) (2 * q) sz (.slice aL n cL)), rowsT eS bsRefs (.slice aL n cL) recs, rdT (.pointer (some ⟨gr, 0, none⟩)) D1, cellsT gs 108 (rslotC (.pointer (some ⟨gr, 0, none⟩)) 0 q), roT aP (picL o), rowsT eS bsRefs (.slice aO ys.length cO) ys] ++ tl) → (w'.cell? ⟨gm, 2, none⟩ = some (.int .i64 (s.cnt : Int)) ∧ w'.cell? ⟨gl, 3, none⟩ = some (.slice aL n cL) ∧ w'.cell? A = some (.slice x.a x.n x.c)) := fun S => ⟨S.cell 0 rfl 2 rfl, S.cell 1 rfl 3 rfl, (HX.out _ S).1⟩
    obtain ⟨k0, k1, k2⟩ := keep Sk
    go_wp2_with fail
    refine (rgetNum_any x.a x.l x.n x.c 0 _ HXd.len (by have := HXd.len; omega) (HX.out _ Sk).2.2).mono ?_
    rintro e w1 ⟨rfl, hb1⟩
    rw [res3_eq]
    have S1 := Sk.grow hb1
    have HNl : Hid (x.n = R.length) := by rw [Hid, ← hR]; exact HXd.len.symm
    rw [hR] at HStep hx4 ⊢
    obtain ⟨K, hK⟩ : ∃ K, numOf (getNum R 0) = K := ⟨_, rfl⟩
    obtain ⟨NX, hNX⟩ : ∃ NX, nextOf (getNum R 0) = NX := ⟨_, rfl⟩
    obtain ⟨oi, hoi⟩ : ∃ oi, (getNum R 0).isSome = oi := ⟨_, rfl⟩
    obtain ⟨b1, hb1'⟩ : ∃ b1, decide (K < (s.cnt : Int)) = b1 := ⟨_, rfl⟩
    obtain ⟨b2, hb2'⟩ : ∃ b2, ((ys.length : Int) == 0) = b2 := ⟨_, rfl⟩
    obtain ⟨b3, hb3'⟩ : ∃ b3, decide (K < picI o) = b3 := ⟨_, rfl⟩
    have hK0 : 0 ≤ K := by rw [← hK]; unfold numOf; split <;> omega
    obtain ⟨nx, hnx⟩ : ∃ nx : Nat, NX = (nx : Int) := ⟨NX.toNat, by rw [← hNX]; unfold nextOf; split <;> omega⟩
    subst hnx
    have HNx : Hid (oi = true → nx ≤ x.n) := by
      intro h
      rw [← hoi] at h
      cases hg : getNum R 0 with
      | none => rw [hg] at h; cases h
      | some p =>
        have h1 := (getNum_some hg).2.2.1
        rw [hg] at hNX
        have h2 : (p.2 : Int) = (nx : Int) := hNX
        have h3 := HNl.out
        omega
    obtain ⟨ob, hob⟩ : ∃ ob, (((oi && b1) && b2) && b3) = ob := ⟨_, rfl⟩
    have HOb : Hid (dOld f s R = ob) := by
      unfold dOld
      rw [Hid, hK, hoi, hb1', ← HAg.out K hK0, hb3', ← hob, ← hb2', hyl]
      congr 2
      rw [Bool.eq_iff_iff]; simp
    rw [HOb.out, hoi, hK, hNX] at HStep
    have HFo : Hid (folOp R = R.drop nx) := by unfold folOp; rw [Hid, hNX]; rfl
    have HM : Hid (R.length = x.n) := HNl.out.symm
    rw [hK, hNX, hoi]
    have HBo := hid hob
    clear hK hNX hoi HOb HNl hob HDs k0 k1 k2 hb1 hyl hys hyd
    obtain ⟨O, hO⟩ : ∃ O, (if ob = true then s.old + 1 else s.old) = O := ⟨_, rfl⟩
    have hOle : O ≤ k + 1 := by rw [← hO]; split <;> omega
    rw [hO] at HStep
    have HO := hid hO
    clear hO
    go_upto_region 16 with fail
    go_cut [104] from 65 to 103 (fun s104 wc => s104 = .bool ob ∧ St w0 wc ([cellsT gm 51 (rjC (.pointer (some ⟨gs, 0, none⟩)) (.pointer (some ⟨gl, 0, none⟩)) ((s.cnt : Int)) (picI o)), cellsT gl 90 (rlogC (.pointer (some ⟨gr, 0, none⟩)) (2 * q) sz (.slice aL n cL)), rowsT eS bsRefs (.slice aL n cL) recs, rdT (.pointer (some ⟨gr, 0, none⟩)) D1, cellsT gs 108 (rslotC (.pointer (some ⟨gr, 0, none⟩)) 0 q), roT aP (picL o), rowsT eS bsRefs (.slice aO ys.length cO) ys] ++ tl))
    case first =>
      have B := HBo.out
      obtain ⟨k0, k1, k2⟩ := keep S1
      cases oi
      · have E : ob = false := by rw [← B]; rfl
        clear B
        go_wp2_with fail
        go_meet
        exact ⟨by rw [E], S1⟩
      cases b1
      · have E : ob = false := by rw [← B]; rfl
        clear B
        go_wp2_with fail
        go_meet
        exact ⟨by rw [E], S1⟩
      cases b2
      · have E : ob = false := by rw [← B]; rfl
        clear B
        go_wp2_with fail
        go_meet
        exact ⟨by rw [E], S1⟩
      · have E : ob = b3 := by rw [← B]; rfl
        clear B
        go_wp2_with fail
        go_meet
        exact ⟨by rw [E], S1⟩
    case rest =>
    obtain ⟨rfl, S2⟩ := hcut
    clear S1
    go_upto_if 104 with fail
    go_cut [15] from 65 to 104 (fun s15 wc => s15 = .int .i64 (O : Int) ∧ St w0 wc ([cellsT gm 51 (rjC (.pointer (some ⟨gs, 0, none⟩)) (.pointer (some ⟨gl, 0, none⟩)) ((s.cnt : Int)) (picI o)), cellsT gl 90 (rlogC (.pointer (some ⟨gr, 0, none⟩)) (2 * q) sz (.slice aL n cL)), rowsT eS bsRefs (.slice aL n cL) recs, rdT (.pointer (some ⟨gr, 0, none⟩)) D1, cellsT gs 108 (rslotC (.pointer (some ⟨gr, 0, none⟩)) 0 q), roT aP (picL o), rowsT eS bsRefs (.slice aO ys.length cO) ys] ++ tl))
    case first =>
      have B := HO.out
      cases ob
      · have E : O = s.old := by rw [← B]; rfl
        clear B
        go_wp2_with fail
        go_meet
        exact ⟨by rw [E], S2⟩
      · have E : Hid (O = s.old + 1) := by rw [Hid, ← B]; rfl
        clear B
        have hwr : IntKind.i64.wrap ((s.old : Int) + 1) = (s.old : Int) + 1 := by rw [IntKind.wrap_i64]; omega
        go_wp2_with fail
        go_meet
        exact ⟨by rw [E.out]; rfl, S2⟩
    case rest =>
    obtain ⟨rfl, S3⟩ := hcut
    clear S2 HBo HO b2 b3 hb2' hb3'
    obtain ⟨lb, hlb⟩ : ∃ lb, (oi && b1) = lb := ⟨_, rfl⟩
    have HLb := hid hlb
    clear hlb
    go_upto_region 18 with fail
    go_cut [21] from 65 to 115 (fun s21 wc => s21 = .bool lb ∧ St w0 wc ([cellsT gm 51 (rjC (.pointer (some ⟨gs, 0, none⟩)) (.pointer (some ⟨gl, 0, none⟩)) ((s.cnt : Int)) (picI o)), cellsT gl 90 (rlogC (.pointer (some ⟨gr, 0, none⟩)) (2 * q) sz (.slice aL n cL)), rowsT eS bsRefs (.slice aL n cL) recs, rdT (.pointer (some ⟨gr, 0, none⟩)) D1, cellsT gs 108 (rslotC (.pointer (some ⟨gr, 0, none⟩)) 0 q), roT aP (picL o), rowsT eS bsRefs (.slice aO ys.length cO) ys] ++ tl))
    case first =>
      have B := HLb.out
      obtain ⟨k0, k1, k2⟩ := keep S3
      cases oi
      · have E : lb = false := by rw [← B]; rfl
        clear B
        go_wp2_with fail
        go_meet
        exact ⟨by rw [E], S3⟩
      · have E : lb = b1 := by rw [← B]; rfl
        clear B
        go_wp2_with fail
        go_meet
        exact ⟨by rw [E], S3⟩
    case rest =>
    obtain ⟨rfl, S4⟩ := hcut
    clear S3
    obtain ⟨b4, hb4⟩ : ∃ b4, decide ((nx : Int) < (x.n : Int)) = b4 := ⟨_, rfl⟩
    have hb4n : decide (nx < x.n) = b4 := by rw [← hb4]; exact decide_eq_decide.2 (by omega)
    obtain ⟨b5, hb5⟩ : ∃ b5, (K != (s.cnt : Int)) = b5 := ⟨_, rfl⟩
    obtain ⟨b6, hb6⟩ : ∃ b6, ((x.n : Int) == (nx : Int)) = b6 := ⟨_, rfl⟩
    obtain ⟨cb, hcb⟩ : ∃ cb, (st || (lb && b4)) = cb := ⟨_, rfl⟩
    obtain ⟨nb, hnb⟩ : ∃ nb, (!oi || b5 || b6) = nb := ⟨_, rfl⟩
    have HStep2 : Hid (DL (k + 1) = if cb = true then ⟨s.ops, s.cnt, O, st⟩ else if nb = true then ⟨s.ops, s.cnt, O, true⟩ else ⟨s.ops ++ [R.drop nx], s.cnt + 1, O, false⟩) := by
      have h1 : (st = true ∨ (oi = true ∧ K < (s.cnt : Int)) ∧ (nx : Int) < (R.length : Int)) ↔ cb = true := by
        rw [← hcb, ← HLb.out, ← hb1', ← hb4, HM.out]; simp [and_assoc]
      have h2 : (oi = false ∨ K ≠ (s.cnt : Int) ∨ (R.length : Int) = (nx : Int)) ↔ nb = true := by
        rw [← hnb, ← hb5, ← hb6, HM.out]; simp [or_assoc]
      rw [Hid, HStep.out, HFo.out]
      simp only [h1, h2]
    have HCb := hid hcb
    have HNb := hid hnb
    clear HStep hcb hnb
    go_upto_region 19 with fail
    go_cut [131] from 65 to 130 (fun s131 wc => s131 = .bool cb ∧ St w0 wc ([cellsT gm 51 (rjC (.pointer (some ⟨gs, 0, none⟩)) (.pointer (some ⟨gl, 0, none⟩)) ((s.cnt : Int)) (picI o)), cellsT gl 90 (rlogC (.pointer (some ⟨gr, 0, none⟩)) (2 * q) sz (.slice aL n cL)), rowsT eS bsRefs (.slice aL n cL) recs, rdT (.pointer (some ⟨gr, 0, none⟩)) D1, cellsT gs 108 (rslotC (.pointer (some ⟨gr, 0, none⟩)) 0 q), roT aP (picL o), rowsT eS bsRefs (.slice aO ys.length cO) ys] ++ tl))
    case first =>
      have B := HCb.out
      obtain ⟨k0, k1, k2⟩ := keep S4
      cases st
      · cases lb
        · have E : cb = false := by rw [← B]; rfl
          clear B
          go_wp2_with fail
          go_meet
          exact ⟨by rw [E], S4⟩
        · have E : cb = b4 := by rw [← B]; rfl
          clear B
          go_wp2_with fail
          go_meet
          exact ⟨by rw [E], S4⟩
      · have E : cb = true := by rw [← B]; rfl
        clear B
        go_wp2_with fail
        go_meet
        exact ⟨by rw [E], S4⟩
    case rest =>
    obtain ⟨rfl, S5⟩ := hcut
    clear S4
    cases cb
    case true =>
      have E : Hid (DL (k + 1) = ⟨s.ops, s.cnt, O, st⟩) := by rw [Hid, HStep2.out, if_pos rfl]
      clear HStep2 hb1' hb4 hb4n hb5 hb6
      go_wp2
      go_roundw
      case rel => exact ⟨k + 1, _, _, _, _, aO, cO, ys, by omega, rfl, by rw [E.out], by rw [E.out], by go_num, rfl, rfl, rfl, rfl, by rw [E.out]; exact HYs.out, by rw [E.out]; exact S5⟩
      case measure => simp [intOf]; omega
    have HStep3 : Hid (DL (k + 1) = if nb = true then ⟨s.ops, s.cnt, O, true⟩ else ⟨s.ops ++ [R.drop nx], s.cnt + 1, O, false⟩) := by rw [Hid, HStep2.out, if_neg (by decide)]
    clear HStep2
    have hst : st = false := by have := HCb.out; cases st <;> simp at this ⊢
    subst hst
    go_upto_region 20 with fail
    go_cut [153] from 65 to 152 (fun s153 wc => s153 = .bool nb ∧ St w0 wc ([cellsT gm 51 (rjC (.pointer (some ⟨gs, 0, none⟩)) (.pointer (some ⟨gl, 0, none⟩)) ((s.cnt : Int)) (picI o)), cellsT gl 90 (rlogC (.pointer (some ⟨gr, 0, none⟩)) (2 * q) sz (.slice aL n cL)), rowsT eS bsRefs (.slice aL n cL) recs, rdT (.pointer (some ⟨gr, 0, none⟩)) D1, cellsT gs 108 (rslotC (.pointer (some ⟨gr, 0, none⟩)) 0 q), roT aP (picL o), rowsT eS bsRefs (.slice aO ys.length cO) ys] ++ tl))
    case first =>
      have B := HNb.out
      obtain ⟨k0, k1, k2⟩ := keep S5
      cases oi
      · have E : nb = true := by rw [← B]; rfl
        clear B
        go_wp2_with fail
        go_meet
        exact ⟨by rw [E], S5⟩
      cases b5
      · have E : nb = b6 := by rw [← B]; rfl
        clear B
        go_wp2_with fail
        go_meet
        exact ⟨by rw [E], S5⟩
      · have E : nb = true := by rw [← B]; rfl
        clear B
        go_wp2_with fail
        go_meet
        exact ⟨by rw [E], S5⟩
    case rest =>
    obtain ⟨rfl, S6⟩ := hcut
    clear S5
    cases nb
    case true =>
      have E : Hid (DL (k + 1) = ⟨s.ops, s.cnt, O, true⟩) := by rw [Hid, HStep3.out, if_pos rfl]
      clear HStep3 hb1' hb4 hb4n hb5 hb6
      go_wp2
      go_roundw
      case rel => exact ⟨k + 1, _, _, _, _, aO, cO, ys, by omega, rfl, by rw [E.out], by rw [E.out], by go_num, rfl, rfl, rfl, rfl, by rw [E.out]; exact HYs.out, by rw [E.out]; exact S6⟩
      case measure => simp [intOf]; omega
    have E : Hid (DL (k + 1) = ⟨s.ops ++ [R.drop nx], s.cnt + 1, O, false⟩) := by rw [Hid, HStep3.out, if_neg (by decide)]
    have hoi : oi = true := by have := HNb.out; cases oi <;> simp at this ⊢
    subst hoi
    have hnx := HNx.out rfl
    clear HStep3 hb1' hb4 hb4n hb5 hb6
    obtain ⟨ml, hml⟩ : ∃ ml, x.n - nx = ml := ⟨_, rfl⟩
    have HMl : Hid ((R.drop nx).length = ml) := by rw [Hid, List.length_drop, HM.out, hml]
    have ic := cut_lI x.a x.n x.c nx (nx : Int) rfl hnx HXd.le
    rw [hml] at ic
    have hmb : ml ≤ 4000 := by have := HM.out; omega
    clear hml
    have q1 : ∀ ob : Obj, (wc.alloc ob).cell? ⟨gl, 3, none⟩ = some (.slice aL n cL) := fun ob => (keep (S6.alloc ob)).2.1
    have q2 : ∀ ob : Obj, (wc.alloc ob).cell? A = some (.slice x.a x.n x.c) := fun ob => (keep (S6.alloc ob)).2.2
    have hat : Hid (At (wc.alloc (.cells #[] 5)) (cutH x.a nx x.c) (R.drop nx)) := by
      have h := (HX.out _ (S6.alloc (.cells #[] 5))).2.2
      rw [hR] at h
      exact h.l nx x.c (by rw [HM.out]; exact HXd.le)
    have S7 := S6.lit0.rot
    have hyc : ys.length ≤ 70000 := by have h1 := HCn.out; omega
    have hcc := HCn.out
    have HXc := hid hcb
    clear hcb hcc hR
    have hwr : IntKind.i64.wrap ((s.cnt : Int) + 1) = (s.cnt : Int) + 1 := by rw [IntKind.wrap_i64]; have := HXc.out; omega
    have HYl : Hid (∀ a3 c3, BS.Hd ⟨a3, ml, c3, R.drop nx⟩ → (ys ++ [(⟨a3, ml, c3, R.drop nx⟩ : BS)]).map BS.l = s.ops ++ [R.drop nx] ∧ ∀ y ∈ ys ++ [(⟨a3, ml, c3, R.drop nx⟩ : BS)], BS.Hd y) := by
      intro a3 c3 h
      refine ⟨by rw [List.map_append, HYs.out.1]; rfl, fun y hy => ?_⟩
      rcases List.mem_append.1 hy with hy | hy
      · exact HYs.out.2 y hy
      · rw [List.mem_singleton] at hy; subst hy; exact h
    go_wp2_with (at_builtin; first
      | (refine wpList_app (by rfl) (.tmp 155) (.tmp 164) 27 27 27 rfl rfl _ _ rfl rfl (S7.app 0 rfl (cutH x.a nx x.c) (R.drop nx) ml (x.c - nx) HMl.out hat.out ml (by simp) (by omega)) ?_; rintro v2 w2 ⟨⟨a2, c2, rfl⟩, S8⟩; have hsl := S8.slA 0 rfl; have HBd : Hid (BS.Hd ⟨a2, ml, c2, R.drop nx⟩) := ⟨HMl.out, hsl.2.1, hsl.2.2.1, hsl.2.2.2.1⟩; clear hsl)
      | (refine wpList_app (by rfl) (.tmp 154) (.tmp 166) 22 22 22 rfl rfl _ _ rfl rfl (St.rowsApp eSok (S8.front 7 rfl) ⟨a2, ml, c2, R.drop nx⟩ rfl w2.heap.size rfl _ (by rfl) (ys.length + 1) rfl (by show (ys.length + 1) * 24 ≤ _; omega) (by unfold maxLen; omega)) ?_; rintro v3 w3 ⟨⟨a3, c3, rfl⟩, S9⟩; have f9 := S9.frozen 1 rfl 2; have d9 := S9.cell 1 rfl 2 rfl))
    have S10 : St w0 _ (cellsT gm 51 (rjC (.pointer (some ⟨gs, 0, none⟩)) (.pointer (some ⟨gl, 0, none⟩)) ((s.cnt : Int) + 1) (picI o)) :: cellsT gl 90 (rlogC (.pointer (some ⟨gr, 0, none⟩)) (2 * q) sz (.slice aL n cL)) :: rowsT eS bsRefs (.slice aL n cL) recs :: rdT (.pointer (some ⟨gr, 0, none⟩)) D1 :: cellsT gs 108 (rslotC (.pointer (some ⟨gr, 0, none⟩)) 0 q) :: roT aP (picL o) :: rowsT eS bsRefs (.slice a3 (ys.length + 1) c3) (ys ++ [⟨a2, ml, c2, R.drop nx⟩]) :: tl) := ((((((S9.setCell 1 rfl 2 (.int .i64 ((s.cnt : Int) + 1))).front 6 rfl).front 6 rfl).front 6 rfl).front 6 rfl).front 6 rfl).front 6 rfl
    go_roundw
    case rel =>
      refine ⟨k + 1, _, _, _, _, a3, c3, ys ++ [⟨a2, ml, c2, R.drop nx⟩], by omega, by rw [List.length_append]; rfl, by rw [E.out], by rw [E.out], by go_num, rfl, rfl, rfl, rfl, by rw [E.out]; exact HYl.out _ _ HBd.out, ?_⟩
      rw [E.out, List.length_append]
      exact S10
    case measure => simp [intOf]; omega
end
end Go.Proofs.Ytmfbbonppmhabaa
