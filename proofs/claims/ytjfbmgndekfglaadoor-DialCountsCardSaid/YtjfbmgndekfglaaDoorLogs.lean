/- Logs: lists alone. The walks of layer 5. log: Put, Append, Used, Clear. log.Open. Logs: what Put and Append make; lists alone. Open, by what stands on the disk. -/
import Derived.Test.YtjfbmgndekfglaaDoorFrames
import Derived.Test.YtjfbmgndekfglaaDoorThings
import Derived.Test.YtjfbmgndekfglaaDoorRds
import Derived.Test.YtjfbmgndekfglaaDoorGround
import Derived.Lib.SliceRun
namespace Go.Proofs.YtjfbmgndekfglaaDoor
set_option linter.unusedVariables false
set_option linter.unusedSimpArgs false
open Go.RowKit

/-! ### A piece of a disk -/
def piece (l : List UInt8) (fr sz : Nat) : List UInt8 := (l.drop fr).take sz
theorem piece_len {l : List UInt8} {fr sz : Nat} (h : fr + sz ≤ l.length) : (piece l fr sz).length = sz := by unfold piece; rw [List.length_take, List.length_drop]; omega
theorem piece_splice {l b : List UInt8} {fr sz k : Nat} (h : fr + sz ≤ l.length) (hk : k + b.length ≤ sz) : piece (splice l (fr + k) b) fr sz = splice (piece l fr sz) k b := by
  obtain ⟨p, x, r, rfl, rfl, hx⟩ := parts h
  obtain ⟨y, z, t, rfl, rfl, hz⟩ := parts (l := x) (k := k) (n := b.length) (by omega)
  have e1 : p ++ (y ++ (z ++ t) ++ r) = (p ++ y) ++ (z ++ (t ++ r)) := by simp
  have e2 : (p ++ y).length = p.length + y.length := List.length_append
  have e3 : splice (p ++ (y ++ (z ++ t) ++ r)) (p.length + y.length) b = p ++ ((y ++ (b ++ t)) ++ r) := by
    rw [e1, ← e2, splice_parts hz]; simp
  have hb : (y ++ (b ++ t)).length = sz := by rw [← hx]; simp; omega
  unfold piece
  rw [e3, List.drop_left' rfl, List.take_left' hb, List.drop_left' rfl, List.take_left' hx, splice_parts hz]
theorem splice_end {l b : List UInt8} {k : Nat} (h : k + b.length = l.length) : splice l k b = l.take k ++ b := by
  unfold splice
  rw [show k + b.length = l.length from h, List.drop_length, List.append_nil]

/-! ### What is read behind other bytes -/
theorem getNum_shift (P X : List UInt8) (k : Nat) : getNum (P ++ X) ((P.length + k : Nat) : Int) = (getNum X k).map fun q => (q.1, P.length + q.2) := by
  by_cases h : k < X.length
  · rw [getNum_at' (by simp; omega), getNum_at' h, ← List.drop_drop, List.drop_left' rfl, Option.map_map]
    congr 1
    funext q
    simp [Nat.add_assoc]
  · unfold getNum
    rw [if_neg (by simp; omega), if_neg (by omega)]; rfl
theorem fGet_in {l : List UInt8} {k : Nat} (h : k ≤ l.length) : fGet l (k : Int) = if l[k]?.getD 0 = 0 then ([], (k : Int), 0) else fNum l k (getNum l k) := by
  rw [fGet, if_neg (by omega), Int.toNat_natCast]
theorem fGet_shift (P X : List UInt8) (k : Nat) : fGet (P ++ X) ((P.length + k : Nat) : Int) = ((fGet X k).1, (P.length : Int) + (fGet X k).2.1, (fGet X k).2.2) := by
  by_cases h : X.length < k
  · rw [fGet, if_pos (.inr (by simp; omega)), fGet, if_pos (.inr (by omega))]; simp
  rw [fGet_in (l := P ++ X) (by rw [List.length_append]; omega), fGet_in (l := X) (by omega), List.getElem?_append_right (by omega), Nat.add_sub_cancel_left]
  by_cases hz : X[k]?.getD 0 = 0
  · rw [if_pos hz, if_pos hz]; simp
  rw [if_neg hz, if_neg hz, getNum_shift]
  cases hg : getNum X k with
  | none => simp [fNum]
  | some q =>
    obtain ⟨n, x⟩ := q
    simp only [Option.map_some, fNum]
    unfold fBody
    by_cases h1 : 4000 < n ∨ X.length ≤ x + n + 4
    · rw [if_pos (by rw [List.length_append]; omega), if_pos h1]; simp
    rw [if_neg (by rw [List.length_append]; omega), if_neg h1]
    have e1 : (P ++ X).drop (P.length + x) = X.drop x := by rw [← List.drop_drop, List.drop_left' rfl]
    have e2 : (P ++ X)[P.length + x + n + 4]? = X[x + n + 4]? := by
      rw [List.getElem?_append_right (by omega)]; congr 1; omega
    rw [e1, e2]
    by_cases h2 : isB ((X.drop x).take (n + 4)) = true ∧ X[x + n + 4]?.getD 0 = 1
    · rw [if_pos h2, if_pos h2]
      simp only [Prod.mk.injEq, and_true, true_and]
      omega
    · rw [if_neg h2, if_neg h2]; simp
theorem fGet_zeros (n : Nat) : fGet (List.replicate n (0 : UInt8)) 0 = ([], 0, 0) := by
  rw [fGet, if_neg (by omega), if_pos]
  cases n <;> simp [List.replicate]
/-- Frames, and behind them what is none. -/
theorem fAll_frames {ps : List (List UInt8)} {X : List UInt8} (hp : ∀ p ∈ ps, 1 ≤ p.length ∧ p.length ≤ 4000) (hX : (fGet X 0).2.2 ≠ 1) : fAll (ps.flatMap frameB ++ X) 0 = (ps, ((ps.flatMap frameB).length : Int)) := by
  have h := all_frames ps [] X 0 [] hp (AllAt.start _ _)
  simp only [List.nil_append] at h
  refine h.stop ?_
  have := fGet_shift (ps.flatMap frameB) X 0
  rw [Nat.add_zero] at this
  rw [this]
  exact hX
theorem frames_snoc (ps : List (List UInt8)) (p : List UInt8) : (ps ++ [p]).flatMap frameB = ps.flatMap frameB ++ frameB p := by simp
/-- What all frames are, is what stands there. -/
theorem fGet_frame {l : List UInt8} {k : Nat} (h : (fGet l k).2.2 = 1) : 1 ≤ (fGet l k).1.length ∧ (fGet l k).1.length ≤ 4000 ∧ (fGet l k).2.1 = ((k + (frameB (fGet l k).1).length : Nat) : Int) ∧ (l.drop k).take (frameB (fGet l k).1).length = frameB (fGet l k).1 ∧ k + (frameB (fGet l k).1).length ≤ l.length := by
  have hb := fGet_one h
  by_cases hz : l[k]?.getD 0 = 0
  · rw [fGet, if_neg (by omega), Int.toNat_natCast, if_pos hz] at h; cases h
  cases hg : getNum l k with
  | none => rw [fGet, if_neg (by omega), Int.toNat_natCast, if_neg hz, hg] at h; cases h
  | some q =>
    obtain ⟨m, x⟩ := q
    have hm := getNum_pos hg hz
    have e : fGet l k = rBody l k m x := by rw [fGet_num hg hz, rBody_eq hg hm]
    rw [e] at h ⊢
    unfold rBody at h ⊢
    split at h
    · cases h
    rename_i h1
    rw [if_neg h1]
    split at h
    · cases h
    rename_i h2
    rw [if_neg h2]
    have hl : ((l.drop x).take m).length = m := by rw [List.length_take, List.length_drop]; omega
    simp only []
    refine ⟨by rw [hl]; exact hm, by rw [hl]; omega, trivial, ?_, ?_⟩
    · by_cases h3 : frameB ((l.drop x).take m) = (l.drop k).take (frameB ((l.drop x).take m)).length
      · exact h3.symm
      · exact absurd (.inr h3) h2
    · omega
theorem fAllF_frames : ∀ (f : Nat) (l : List UInt8) (k : Nat), k ≤ l.length → (∀ p ∈ (fAllF f l k).1, 1 ≤ p.length ∧ p.length ≤ 4000) ∧ (fAllF f l k).2 = ((k + ((fAllF f l k).1.flatMap frameB).length : Nat) : Int) ∧ k + ((fAllF f l k).1.flatMap frameB).length ≤ l.length ∧ (l.drop k).take ((fAllF f l k).1.flatMap frameB).length = (fAllF f l k).1.flatMap frameB
  | 0, l, k, hk => by simp [fAllF]; exact hk
  | f + 1, l, k, hk => by
    rw [fAllF]
    by_cases hw : (fGet l k).2.2 = 1
    · rw [if_pos hw]
      obtain ⟨h1, h2, h3, h4, h5⟩ := fGet_frame hw
      rw [h3]
      have ih := fAllF_frames f l (k + (frameB (fGet l k).1).length) h5
      generalize (fGet l k).1 = p at *
      generalize fAllF f l ((k + (frameB p).length : Nat) : Int) = r at *
      refine ⟨?_, ?_, ?_, ?_⟩
      · intro q hq
        rcases List.mem_cons.1 hq with rfl | hq
        · exact ⟨h1, h2⟩
        · exact ih.1 q hq
      · rw [ih.2.1, List.flatMap_cons, List.length_append]; omega
      · rw [List.flatMap_cons, List.length_append]; have := ih.2.2.1; omega
      · rw [List.flatMap_cons, List.length_append, List.take_add, h4, List.drop_drop, ih.2.2.2]
    · rw [if_neg hw]; simp; exact hk
theorem fAll_is (l : List UInt8) : (∀ p ∈ (fAll l 0).1, 1 ≤ p.length ∧ p.length ≤ 4000) ∧ (fAll l 0).2 = (((fAll l 0).1.flatMap frameB).length : Int) ∧ ((fAll l 0).1.flatMap frameB).length ≤ l.length ∧ l.take ((fAll l 0).1.flatMap frameB).length = (fAll l 0).1.flatMap frameB := by
  have := fAllF_frames (l.length + 1) l 0 (Nat.zero_le _)
  simp only [Nat.zero_add, List.drop_zero] at this
  exact this

end Go.Proofs.YtjfbmgndekfglaaDoor

namespace Go.Proofs.YtjfbmgndekfglaaDoor
set_option linter.unusedVariables false
set_option linter.unusedSimpArgs false
open Go.RowKit

theorem St.setBytes {w0 : World} {g n c : Nat} (j : Nat) : ∀ (vs : List UInt8) (o : Nat) (w : World) (r : List Thing) (l : List UInt8), r[j]? = some (bytesT (.slice (some ⟨g, 0, none⟩) n c) l) → o + vs.length ≤ l.length → St w0 w r →
    St w0 (w.setCells g o (vs.map bv)) (r.set j (bytesT (.slice (some ⟨g, 0, none⟩) n c) (splice l o vs)))
  | [], o, w, r, l, hj, _, S => by
    rw [splice_nil]
    have e : r.set j (bytesT (.slice (some ⟨g, 0, none⟩) n c) l) = r := by
      apply List.ext_getElem?
      intro i
      by_cases h : j = i
      · subst h; rw [List.getElem?_set_self (List.getElem?_eq_some_iff.1 hj).1, hj]
      · rw [List.getElem?_set_ne h]
    rw [e]; exact S
  | v :: vs, o, w, r, l, hj, ho, S => by
    have hjl := (List.getElem?_eq_some_iff.1 hj).1
    have h1 := S.setByte j hj (k := o) v
    have h2 := St.setBytes j vs (o + 1) _ _ (l.set o v) (by rw [List.getElem?_set_self hjl]) (by rw [List.length_set]; simp at ho; omega) h1
    rw [set_splice v vs (by simpa using ho), List.set_set] at h2
    exact h2
/-- `clear(b)`. -/
theorem St.clear {w0 w : World} {r : List Thing} (S : St w0 w r) (j : Nat) {a : Option Addr} {n c : Nat} {l : List UInt8} (hj : r[j]? = some (bytesT (.slice a n c) l)) (ty : TypeId) :
    ∃ v' w', (Builtin.clear_ #[70] ty #[.slice a n c]).run Tryd.prog w = .ok v' w' ∧ v' = .tuple #[] ∧ St w0 w' (r.set j (bytesT (.slice a n c) (List.replicate n 0))) := by
  have hs := S.slA j hj
  rcases Nat.eq_zero_or_pos n with h0 | h0
  · subst h0
    have hl : l = [] := List.eq_nil_of_length_eq_zero hs.1
    subst hl
    refine ⟨_, w, by cases a <;> simp [Builtin.clear_, run_underlying sliceB], rfl, ?_⟩
    have e : r.set j (bytesT (.slice a 0 c) (List.replicate 0 0)) = r := by
      apply List.ext_getElem?
      intro i
      by_cases h : j = i
      · subst h; rw [List.getElem?_set_self (List.getElem?_eq_some_iff.1 hj).1, hj]; rfl
      · rw [List.getElem?_set_ne h]
    rw [e]; exact S
  · obtain ⟨g, cap, e, _⟩ := (S.ownAt j hj).form (by rw [hs.1]; exact h0)
    have ea : a = some ⟨g, 0, none⟩ := by injection e
    subst ea
    have hown := S.ownAt j hj
    have hr := Lib.run_clear_slice (P := Tryd.prog) w 70 5 ty (.int .u8 0) sliceB (fun w => by kernel_rfl) rfl rfl g 0 n c h0
      (fun i hi => by rw [Nat.zero_add, hown.cellAt hs.1 i (by rw [hs.1]; exact hi)]; rfl) (fun i hi => by rw [Nat.zero_add]; exact hown.frz hs.1 i)
    refine ⟨_, _, hr, rfl, ?_⟩
    have h2 := St.setBytes j (List.replicate n 0) 0 w r l hj (by rw [List.length_replicate, hs.1]; omega) S
    rw [splice_end (by rw [List.length_replicate, hs.1]; omega), List.take_zero, List.nil_append, List.map_replicate] at h2
    exact h2
theorem wpList_clear {ops : Array Oper} {rest : List Oper} {o : Oper} {a : Act} {w : World} {Q : Exit → Act → World → Prop} (hw : Region.wanted o (yielded ops a.tmps) = true) (s : Operand) (t : TypeId)
    (ho : o.op = .call { callee := .builtin .clear, args := #[s], argTypes := #[t] }) {R : Value → World → Prop} (v : Value) (hs : a.eval s = v)
    (hr : ∃ v' w', (Builtin.clear_ #[t] o.type #[v]).run Tryd.prog w = .ok v' w' ∧ R v' w') (h : ∀ v' w', R v' w' → wpList Tryd.prog ops Q rest (a.put o.dst v') w') : wpList Tryd.prog ops Q (o :: rest) a w := by
  unfold wpList
  rw [if_pos hw]
  refine .inl ?_
  obtain ⟨v', w', hr, h2⟩ := hr
  unfold Oper.wp execOp
  simp only [ho, resolve, invoke, builtin, Sem.run_bind, Sem.run_pure, Result.andThen_ok, List.map_toArray, List.map_cons, List.map_nil, hs, hr]
  exact h v' w' h2

/-- What `noughts` makes of a disk. -/
def DSt.nought (d : DSt) (fr sz at_ : Nat) : DSt := (d.write ((fr + at_ : Nat) : Int) (List.replicate (sz - at_) 0)).sync
def logC (pd : Value) (fr sz used : Nat) : List Value := [pd, .int .i64 (fr : Int), .int .i64 (sz : Int), .int .i64 (used : Int)]

section
variable {w0 w : World} {tl : List Thing} {pd : Value} {d : DSt} {g fr sz used : Nat}
/-- Is there room for a payload? -/
def roomB (sz used : Nat) (n : Int) : Bool := decide (1 ≤ n) && (decide (n ≤ 4000) && decide (((codeNum n).length : Int) + n + 5 ≤ (sz : Int) - (used : Int)))
end

end Go.Proofs.YtjfbmgndekfglaaDoor

namespace Go.Proofs.YtjfbmgndekfglaaDoor
set_option linter.unusedVariables false
set_option linter.unusedSimpArgs false
open Go.RowKit

/-- What Put makes: an error's number, the disk, how much is used. -/
def logPut (d : DSt) (fr sz used : Nat) (p : List UInt8) : Int × DSt × Nat :=
  if p.length = 0 ∨ 4000 < p.length then (1, d, used)
  else if roomB sz used p.length = false then (3, d, used)
  else (0, d.write ((fr + used : Nat) : Int) (frameB p), used + (frameB p).length)

section
variable {w0 w : World} {tl : List Thing} {pd : Value} {d : DSt} {g fr sz used : Nat}
/-- What Append makes. -/
def logApp (d : DSt) (fr sz used : Nat) (p : List UInt8) : Int × DSt × Nat :=
  ((logPut d fr sz used p).1, if (logPut d fr sz used p).1 = 0 then (logPut d fr sz used p).2.1.sync else (logPut d fr sz used p).2.1, (logPut d fr sz used p).2.2)
theorem logPut_lens (d : DSt) (fr sz used : Nat) (p : List UInt8) : (logPut d fr sz used p).2.1.waits.length ≤ d.waits.length + 1 ∧ (logPut d fr sz used p).2.1.syncs = d.syncs ∧ (logPut d fr sz used p).2.1.lasts = d.lasts := by
  unfold logPut
  split
  · exact ⟨by show d.waits.length ≤ _; omega, rfl, rfl⟩
  split
  · exact ⟨by show d.waits.length ≤ _; omega, rfl, rfl⟩
  · exact ⟨DSt.write_waits _ _ _, DSt.write_syncs _ _ _, DSt.write_lasts _ _ _⟩
end

end Go.Proofs.YtjfbmgndekfglaaDoor

namespace Go.Proofs.YtjfbmgndekfglaaDoor
set_option linter.unusedVariables false
set_option linter.unusedSimpArgs false
open Go.RowKit

/-- What a call has made, told over our base. -/
theorem St.rowsIn {α : Type} {e : Elt α} {refs : α → List (Option Addr × List UInt8)} {w0 w w' : World} {tl : List Thing} {v : Value} {l : List α} (S : St w0 w tl) (T : St w w' [rowsT e refs v l]) : St w0 w' (rowsT e refs v l :: tl) := by
  obtain ⟨F, h1, h2, h3, h4⟩ := T.head 0 rfl
  exact (S.push T.fin (y := rowsT e refs v l) (F := F) ⟨h1.base S.size, h2, h3, fun b hb => ⟨Nat.le_trans S.size (h4 b hb).1, (h4 b hb).2⟩⟩ (fun b hb => (h4 b hb).1)).rot

section
variable {w0 w : World} {tl : List Thing} {pd : Value} {d : DSt}
end

end Go.Proofs.YtjfbmgndekfglaaDoor

namespace Go.Proofs.YtjfbmgndekfglaaDoor
set_option linter.unusedVariables false
set_option linter.unusedSimpArgs false
open Go.RowKit

theorem frame_room {p : List UInt8} (h1 : 1 ≤ p.length) (h2 : p.length ≤ 4000) (sz used : Nat) : roomB sz used p.length = decide ((frameB p).length + used ≤ sz) := by
  unfold roomB
  rw [frame_len h1 h2, decide_eq_true (by omega : (1 : Int) ≤ p.length), decide_eq_true (by omega : (p.length : Int) ≤ 4000), Bool.true_and, Bool.true_and]
  congr 1
  rw [eq_iff_iff]
  omega
/-- There is a frame's room, and it is put. -/
theorem logPut_ok {d : DSt} {fr sz used : Nat} {p : List UInt8} (h1 : 1 ≤ p.length) (h2 : p.length ≤ 4000) (h : (frameB p).length + used ≤ sz) : logPut d fr sz used p = (0, d.write ((fr + used : Nat) : Int) (frameB p), used + (frameB p).length) := by
  unfold logPut
  rw [if_neg (by omega), if_neg (by rw [frame_room h1 h2, decide_eq_true h]; simp)]
theorem logPut_full {d : DSt} {fr sz used : Nat} {p : List UInt8} (h1 : 1 ≤ p.length) (h2 : p.length ≤ 4000) (h : ¬ (frameB p).length + used ≤ sz) : logPut d fr sz used p = (3, d, used) := by
  unfold logPut
  rw [if_neg (by omega), if_pos (by rw [frame_room h1 h2, decide_eq_false h])]
theorem logPut_bad {d : DSt} {fr sz used : Nat} {p : List UInt8} (h : p.length = 0 ∨ 4000 < p.length) : logPut d fr sz used p = (1, d, used) := by
  unfold logPut; rw [if_pos h]
theorem write_in {d : DSt} {k : Nat} {b : List UInt8} (h : k + b.length ≤ d.lasts.length) : d.write (k : Int) b = { d with waits := d.waits ++ [(k, b)] } := by
  rw [DSt.write_ok (by rw [DSt.can_code, DSt.code, if_neg (by omega), if_neg (by omega)])]; rfl
/-- A log on a disk: its records, and noughts behind them. -/
structure LogInv (d : DSt) (fr sz used : Nat) (ps : List (List UInt8)) : Prop where
  fit : ∀ x ∈ d.waits, x.1 + x.2.length ≤ d.lasts.length
  room : fr + sz ≤ d.lasts.length
  len_ : (ps.flatMap frameB).length = used
  le : used ≤ sz
  ok : ∀ p ∈ ps, 1 ≤ p.length ∧ p.length ≤ 4000
  is : piece d.bytes fr sz = ps.flatMap frameB ++ List.replicate (sz - used) 0
theorem LogInv.bytesLen {d : DSt} {fr sz used : Nat} {ps : List (List UInt8)} (h : LogInv d fr sz used ps) : d.bytes.length = d.lasts.length := dAll_len _ _ h.fit
theorem LogInv.all {d : DSt} {fr sz used : Nat} {ps : List (List UInt8)} (h : LogInv d fr sz used ps) : fAll (piece d.bytes fr sz) 0 = (ps, (used : Int)) := by
  rw [h.is, fAll_frames h.ok (by rw [fGet_zeros]; simp), h.len_]
theorem splice_zeros {X f : List UInt8} {z : Nat} (h : f.length ≤ z) : splice (X ++ List.replicate z 0) X.length f = (X ++ f) ++ List.replicate (z - f.length) 0 := by
  obtain ⟨y, rfl⟩ := Nat.exists_eq_add_of_le h
  rw [show List.replicate (f.length + y) (0 : UInt8) = List.replicate f.length 0 ++ List.replicate y 0 from (List.replicate_append_replicate ..).symm, splice_parts (by simp), Nat.add_sub_cancel_left]
  simp
theorem fit_write {d : DSt} {k : Nat} {b : List UInt8} (h : ∀ x ∈ d.waits, x.1 + x.2.length ≤ d.lasts.length) (hb : k + b.length ≤ d.lasts.length) : ∀ x ∈ (d.write (k : Int) b).waits, x.1 + x.2.length ≤ (d.write (k : Int) b).lasts.length := by
  rw [write_in hb]
  intro x hx
  rcases List.mem_append.1 hx with hx | hx
  · exact h x hx
  · simp at hx; subst hx; exact hb
theorem LogInv.put {d : DSt} {fr sz used : Nat} {ps : List (List UInt8)} (h : LogInv d fr sz used ps) {p : List UInt8} (h1 : 1 ≤ p.length) (h2 : p.length ≤ 4000) (hr : (frameB p).length + used ≤ sz) : LogInv (d.write ((fr + used : Nat) : Int) (frameB p)) fr sz (used + (frameB p).length) (ps ++ [p]) := by
  have hb : fr + used + (frameB p).length ≤ d.lasts.length := by have := h.room; omega
  refine ⟨fit_write h.fit hb, by rw [DSt.write_lasts]; exact h.room, by rw [frames_snoc, List.length_append, h.len_], by omega, ?_, ?_⟩
  · intro q hq
    rcases List.mem_append.1 hq with hq | hq
    · exact h.ok q hq
    · simp at hq; subst hq; exact ⟨h1, h2⟩
  · rw [DSt.write_bytes, if_pos (by rw [DSt.can_code, DSt.code, if_neg (by omega), if_neg (by omega)]), Int.toNat_natCast, piece_splice (by rw [h.bytesLen]; exact h.room) (by omega), h.is]
    have := splice_zeros (X := ps.flatMap frameB) (f := frameB p) (z := sz - used) (by omega)
    rw [h.len_] at this
    rw [this, frames_snoc]
    congr 2
    omega
theorem LogInv.sync {d : DSt} {fr sz used : Nat} {ps : List (List UInt8)} (h : LogInv d fr sz used ps) : LogInv d.sync fr sz used ps ∧ d.sync.lasts.length = d.lasts.length := by
  have hl : d.sync.lasts.length = d.lasts.length := dDone_len _ _ _ h.fit
  exact ⟨⟨fun x hx => by simp [DSt.sync, DSt.crash] at hx, by rw [hl]; exact h.room, h.len_, h.le, h.ok, by rw [DSt.sync_bytes]; exact h.is⟩, hl⟩
/-- What opening makes of whatever disk. -/
theorem nought_len {d : DSt} {fr sz u : Nat} (hfit : ∀ x ∈ d.waits, x.1 + x.2.length ≤ d.lasts.length) (hr : fr + sz ≤ d.lasts.length) (hu : u ≤ sz) : (d.nought fr sz u).lasts.length = d.lasts.length ∧ (d.nought fr sz u).waits = [] ∧ (d.nought fr sz u).syncs = d.syncs + 1 ∧ piece (d.nought fr sz u).bytes fr sz = (piece d.bytes fr sz).take u ++ List.replicate (sz - u) 0 := by
  have hb : (fr + u) + (List.replicate (sz - u) (0 : UInt8)).length ≤ d.lasts.length := by rw [List.length_replicate]; omega
  have hl : (d.nought fr sz u).lasts.length = d.lasts.length := by
    have := dDone_len (d.write ((fr + u : Nat) : Int) (List.replicate (sz - u) 0)).waits (d.write ((fr + u : Nat) : Int) (List.replicate (sz - u) 0)).lasts (dWaits (d.write ((fr + u : Nat) : Int) (List.replicate (sz - u) 0)).waits) (fit_write hfit hb)
    rw [DSt.write_lasts] at this
    unfold DSt.nought
    rw [← this, ← DSt.write_lasts d ((fr + u : Nat) : Int) (List.replicate (sz - u) 0)]; rfl
  have hbl : d.bytes.length = d.lasts.length := dAll_len _ _ hfit
  refine ⟨hl, rfl, by show (d.write _ _).syncs + 1 = _; rw [DSt.write_syncs], ?_⟩
  show piece (DSt.sync _).bytes fr sz = _
  rw [DSt.sync_bytes, DSt.write_bytes, if_pos (by rw [DSt.can_code, DSt.code, if_neg (by omega), if_neg (by rw [List.length_replicate] at *; omega)]), Int.toNat_natCast, piece_splice (by rw [hbl]; exact hr) (by rw [List.length_replicate]; omega)]
  exact splice_end (by rw [List.length_replicate, piece_len (by rw [hbl]; exact hr)]; omega)
theorem LogInv.open_ {d : DSt} {fr sz : Nat} (hfit : ∀ x ∈ d.waits, x.1 + x.2.length ≤ d.lasts.length) (hr : fr + sz ≤ d.lasts.length) :
    LogInv (d.nought fr sz ((fAll (piece d.bytes fr sz) 0).1.flatMap frameB).length) fr sz ((fAll (piece d.bytes fr sz) 0).1.flatMap frameB).length (fAll (piece d.bytes fr sz) 0).1 := by
  obtain ⟨r1, r2, r3, r4⟩ := fAll_is (piece d.bytes fr sz)
  have hbl : d.bytes.length = d.lasts.length := dAll_len _ _ hfit
  rw [piece_len (by rw [hbl]; exact hr)] at r3
  obtain ⟨n1, n2, n3, n4⟩ := nought_len hfit hr r3
  exact ⟨fun x hx => by rw [n2] at hx; simp at hx, by rw [n1]; exact hr, rfl, r3, r1, by rw [n4, r4]⟩
theorem frame_short {p : List UInt8} (h1 : 1 ≤ p.length) (h2 : p.length < 128) : (frameB p).length = p.length + 6 := by
  rw [frame_len h1 (by omega), codeNum_yes (by omega), num_last (f := 7) h2]
  simp only [List.length_singleton]; omega
theorem sync_waits (d : DSt) : d.sync.waits = [] ∧ d.sync.syncs = d.syncs + 1 := ⟨rfl, rfl⟩
/-- What Append makes of a log that has no pending writes. -/
theorem LogInv.app {d : DSt} {fr sz used : Nat} {ps : List (List UInt8)} (h : LogInv d fr sz used ps) (hw : d.waits = []) (p : List UInt8) (hp : p.length ≤ 4000) :
    (roomB sz used p.length = true ∧ 1 ≤ p.length ∧ (logApp d fr sz used p).1 = 0 ∧ (logApp d fr sz used p).2.2 = used + (frameB p).length ∧ LogInv (logApp d fr sz used p).2.1 fr sz (used + (frameB p).length) (ps ++ [p]) ∧ (logApp d fr sz used p).2.1.waits = [] ∧ (logApp d fr sz used p).2.1.syncs = d.syncs + 1 ∧ (logApp d fr sz used p).2.1.lasts.length = d.lasts.length) ∨
    (roomB sz used p.length = false ∧ ((logApp d fr sz used p).1 = 1 ∨ (logApp d fr sz used p).1 = 3) ∧ (logApp d fr sz used p).2.2 = used ∧ (logApp d fr sz used p).2.1 = d) := by
  by_cases h0 : p.length = 0
  · right
    have e := logPut_bad (d := d) (fr := fr) (sz := sz) (used := used) (p := p) (.inl h0)
    unfold logApp
    rw [e]
    exact ⟨by unfold roomB; rw [h0]; simp, .inl rfl, rfl, rfl⟩
  by_cases hr : (frameB p).length + used ≤ sz
  · left
    have e := logPut_ok (d := d) (fr := fr) (sz := sz) (used := used) (p := p) (by omega) hp hr
    have hI := h.put (p := p) (by omega) hp hr
    unfold logApp
    rw [e]
    refine ⟨by rw [frame_room (by omega) hp]; exact decide_eq_true hr, by omega, rfl, rfl, hI.sync.1, rfl, ?_, ?_⟩
    · show (d.write _ _).syncs + 1 = _; rw [DSt.write_syncs]
    · show (DSt.sync _).lasts.length = _; rw [hI.sync.2, DSt.write_lasts]
  · right
    have e := logPut_full (d := d) (fr := fr) (sz := sz) (used := used) (p := p) (by omega) hp hr
    unfold logApp
    rw [e]
    exact ⟨by rw [frame_room (by omega) hp]; exact decide_eq_false hr, .inr rfl, rfl, rfl⟩

end Go.Proofs.YtjfbmgndekfglaaDoor

namespace Go.Proofs.YtjfbmgndekfglaaDoor
set_option linter.unusedVariables false
set_option linter.unusedSimpArgs false
open Go.RowKit

theorem St.drop {w0 w : World} {l : List Thing} (S : St w0 w l) (n : Nat) : St w0 w (l.drop n) :=
  S.pick (fun i => n + i) (fun i hi => by rw [List.length_drop] at hi; exact ⟨by omega, by rw [List.getElem?_drop]⟩) (fun i j _ _ h => by simpa using h)
/-- A new disk, and a log that is opened on it. -/
theorem logNew {N fr sz : Nat} (h : fr + sz ≤ N) (hN : N ≤ 65536) : ∃ d ps u, (DSt.new N).nought fr sz ((fAll (piece (DSt.new N).bytes fr sz) 0).1.flatMap frameB).length = d ∧ (fAll (piece (DSt.new N).bytes fr sz) 0).1 = ps ∧ ((fAll (piece (DSt.new N).bytes fr sz) 0).1.flatMap frameB).length = u ∧ LogInv d fr sz u ps ∧ d.waits = [] ∧ d.syncs = 1 ∧ d.lasts.length = N ∧ ps = [] ∧ u = 0 := by
  have hl : (DSt.new N).lasts.length = N := by simp [DSt.new]
  have hI := LogInv.open_ (d := DSt.new N) (fr := fr) (sz := sz) (by intro x hx; simp [DSt.new] at hx) (by rw [hl]; exact h)
  obtain ⟨n1, n2, n3, n4⟩ := nought_len (d := DSt.new N) (fr := fr) (sz := sz) (u := ((fAll (piece (DSt.new N).bytes fr sz) 0).1.flatMap frameB).length) (by intro x hx; simp [DSt.new] at hx) (by rw [hl]; exact h) hI.le
  have e : fAll (piece (DSt.new N).bytes fr sz) 0 = ([], 0) := by
    have e1 : piece (DSt.new N).bytes fr sz = List.replicate sz 0 := by
      show piece (List.replicate N 0) fr sz = _
      unfold piece
      rw [List.drop_replicate, List.take_replicate]
      congr 1; omega
    rw [e1]
    have := fAll_frames (ps := []) (X := List.replicate sz 0) (by simp) (by rw [fGet_zeros]; simp)
    simpa using this
  refine ⟨_, _, _, rfl, rfl, rfl, hI, n2, by rw [n3]; rfl, by rw [n1, hl], by rw [e], by rw [e]; rfl⟩

theorem openInv {d : DSt} {fr sz used : Nat} {ps : List (List UInt8)} (hfit : ∀ x ∈ d.waits, x.1 + x.2.length ≤ d.lasts.length) (hr : fr + sz ≤ d.lasts.length) (h : fAll (piece d.bytes fr sz) 0 = (ps, (used : Int))) :
    ∃ d', d.nought fr sz used = d' ∧ LogInv d' fr sz used ps ∧ d'.waits = [] ∧ d'.syncs = d.syncs + 1 ∧ d'.lasts.length = d.lasts.length ∧ (ps.flatMap frameB).length = used := by
  have hI := LogInv.open_ hfit hr
  obtain ⟨r1, r2, r3, r4⟩ := fAll_is (piece d.bytes fr sz)
  rw [h] at hI r2 r3
  simp only [] at hI r2 r3
  have hu : (ps.flatMap frameB).length = used := by omega
  rw [hu] at hI
  obtain ⟨n1, n2, n3, n4⟩ := nought_len hfit hr hI.le
  exact ⟨_, rfl, hI, n2, n3, n1, hu⟩
section
variable {w0 w : World} {tl : List Thing} {pd : Value} {d : DSt}
end

/-- Bytes that are only read, in a block of ours. -/
def roT (a : Option Addr) (l : List UInt8) : Thing where
  lies := fun w B F => At w a l ∧ (∀ x, a = some x → F x.block) ∧ ∀ b, F b → B ≤ b ∧ b < w.heap.size
  touch := fun ⟨h1, h2, h3⟩ ht _ hM => ⟨h1.touch ht (fun x hx => hM _ (h2 x hx)), h2, fun b hb => ⟨(h3 b hb).1, Nat.lt_of_lt_of_le (h3 b hb).2 ht.size⟩⟩
  low := fun h => h.2.2
theorem St.lit {w0 w : World} {r : List Thing} (S : St w0 w r) (l : List UInt8) (c : Array Value) (hc : c.toList = l.map bv) (f : Nat × Nat) : St w0 (w.alloc (.cells c 5 f)) (roT (some ⟨w.heap.size, 0, none⟩) l :: r) :=
  (S.push ((Below.refl _ _).alloc (Nat.le_refl _) _) (y := roT (some ⟨w.heap.size, 0, none⟩) l) (F := fun b => b = w.heap.size) ⟨At.mark hc f, fun x hx => by cases hx; rfl, fun b hb => by subst hb; exact ⟨S.size, by simp⟩⟩ (fun b hb => by subst hb; exact Nat.le_refl _)).rot
theorem Reads.ro {w0 : World} {l : List Thing} (j : Nat) {a : Option Addr} {b : List UInt8} (h : l[j]? = some (roT a b)) : Reads w0 l a b := by
  intro w pre S
  obtain ⟨F, h1, _⟩ := S.head (pre.length + j) (by rw [List.getElem?_append_right (by omega), Nat.add_sub_cancel_left]; exact h)
  exact h1

end Go.Proofs.YtjfbmgndekfglaaDoor
