/- Logs: lists alone. The walks of layer 5. log: Put, Append, Used, Clear. log.Open. Logs: what Put and Append make; lists alone. Open, by what stands on the disk. -/
import Derived.Test.YtmfbbonppmhabaaFrames
import Derived.Test.YtmfbbonppmhabaaThings
import Derived.Test.YtmfbbonppmhabaaRds
import Derived.Test.YtmfbbonppmhabaaGround
import Derived.Lib.SliceRun
namespace Go.Proofs.Ytmfbbonppmhabaa
set_option linter.unusedVariables false
set_option linter.unusedSimpArgs false
open Go.RowKit

/-! ### A piece of a disk -/
def piece (l : List UInt8) (fr sz : Nat) : List UInt8 := (l.drop fr).take sz
theorem piece_len {l : List UInt8} {fr sz : Nat} (h : fr + sz ≤ l.length) : (piece l fr sz).length = sz := by unfold piece; rw [List.length_take, List.length_drop]; omega
theorem piece_splice {l b : List UInt8} {fr sz k : Nat} (h : fr + sz ≤ l.length) (hk : k + b.length ≤ sz) : piece (splice l (fr + k) b) fr sz = splice (piece l fr sz) k b := by
  obtain ⟨p, x, r, rfl, rfl, hx⟩ := parts h
  obtain ⟨y, z, t, rfl, rfl, hz⟩ := parts (l := x) (k := k) (n := b.length) (by omega)
  have e1 : p ++ (y ++ (z ++ t) ++ r) = (p ++ y) ++ (z ++ (t ++ r)) := by simp
  have e2 : (p ++ y).length = p.length + y.length := List.length_append
  have e3 : splice (p ++ (y ++ (z ++ t) ++ r)) (p.length + y.length) b = p ++ ((y ++ (b ++ t)) ++ r) := by
    rw [e1, ← e2, splice_parts hz]; simp
  have hb : (y ++ (b ++ t)).length = sz := by rw [← hx]; simp; omega
  unfold piece
  rw [e3, List.drop_left' rfl, List.take_left' hb, List.drop_left' rfl, List.take_left' hx, splice_parts hz]
theorem splice_end {l b : List UInt8} {k : Nat} (h : k + b.length = l.length) : splice l k b = l.take k ++ b := by
  unfold splice
  rw [show k + b.length = l.length from h, List.drop_length, List.append_nil]

/-! ### What is read behind other bytes -/
theorem getNum_shift (P X : List UInt8) (k : Nat) : getNum (P ++ X) ((P.length + k : Nat) : Int) = (getNum X k).map fun q => (q.1, P.length + q.2) := by
  by_cases h : k < X.length
  · rw [getNum_at' (by simp; omega), getNum_at' h, ← List.drop_drop, List.drop_left' rfl, Option.map_map]
    congr 1
    funext q
    simp [Nat.add_assoc]
  · unfold getNum
    rw [if_neg (by simp; omega), if_neg (by omega)]; rfl
theorem fGet_in {l : List UInt8} {k : Nat} (h : k ≤ l.length) : fGet l (k : Int) = if l[k]?.getD 0 = 0 then ([], (k : Int), 0) else fNum l k (getNum l k) := by
  rw [fGet, if_neg (by omega), Int.toNat_natCast]
theorem fGet_shift (P X : List UInt8) (k : Nat) : fGet (P ++ X) ((P.length + k : Nat) : Int) = ((fGet X k).1, (P.length : Int) + (fGet X k).2.1, (fGet X k).2.2) := by
  by_cases h : X.length < k
  · rw [fGet, if_pos (.inr (by simp; omega)), fGet, if_pos (.inr (by omega))]; simp
  rw [fGet_in (l := P ++ X) (by rw [List.length_append]; omega), fGet_in (l := X) (by omega), List.getElem?_append_right (by omega), Nat.add_sub_cancel_left]
  by_cases hz : X[k]?.getD 0 = 0
  · rw [if_pos hz, if_pos hz]; simp
  rw [if_neg hz, if_neg hz, getNum_shift]
  cases hg : getNum X k with
  | none => simp [fNum]
  | some q =>
    obtain ⟨n, x⟩ := q
    simp only [Option.map_some, fNum]
    unfold fBody
    by_cases h1 : 4000 < n ∨ X.length ≤ x + n + 4
    · rw [if_pos (by rw [List.length_append]; omega), if_pos h1]; simp
    rw [if_neg (by rw [List.length_append]; omega), if_neg h1]
    have e1 : (P ++ X).drop (P.length + x) = X.drop x := by rw [← List.drop_drop, List.drop_left' rfl]
    have e2 : (P ++ X)[P.length + x + n + 4]? = X[x + n + 4]? := by
      rw [List.getElem?_append_right (by omega)]; congr 1; omega
    rw [e1, e2]
    by_cases h2 : isB ((X.drop x).take (n + 4)) = true ∧ X[x + n + 4]?.getD 0 = 1
    · rw [if_pos h2, if_pos h2]
      simp only [Prod.mk.injEq, and_true, true_and]
      omega
    · rw [if_neg h2, if_neg h2]; simp
theorem fGet_zeros (n : Nat) : fGet (List.replicate n (0 : UInt8)) 0 = ([], 0, 0) := by
  rw [fGet, if_neg (by omega), if_pos]
  cases n <;> simp [List.replicate]
/-- Frames, and behind them what is none. -/
theorem fAll_frames {ps : List (List UInt8)} {X : List UInt8} (hp : ∀ p ∈ ps, 1 ≤ p.length ∧ p.length ≤ 4000) (hX : (fGet X 0).2.2 ≠ 1) : fAll (ps.flatMap frameB ++ X) 0 = (ps, ((ps.flatMap frameB).length : Int)) := by
  have h := all_frames ps [] X 0 [] hp (AllAt.start _ _)
  simp only [List.nil_append] at h
  refine h.stop ?_
  have := fGet_shift (ps.flatMap frameB) X 0
  rw [Nat.add_zero] at this
  rw [this]
  exact hX
theorem frames_snoc (ps : List (List UInt8)) (p : List UInt8) : (ps ++ [p]).flatMap frameB = ps.flatMap frameB ++ frameB p := by simp
/-- What all frames are, is what stands there. -/
theorem fGet_frame {l : List UInt8} {k : Nat} (h : (fGet l k).2.2 = 1) : 1 ≤ (fGet l k).1.length ∧ (fGet l k).1.length ≤ 4000 ∧ (fGet l k).2.1 = ((k + (frameB (fGet l k).1).length : Nat) : Int) ∧ (l.drop k).take (frameB (fGet l k).1).length = frameB (fGet l k).1 ∧ k + (frameB (fGet l k).1).length ≤ l.length := by
  have hb := fGet_one h
  by_cases hz : l[k]?.getD 0 = 0
  · rw [fGet, if_neg (by omega), Int.toNat_natCast, if_pos hz] at h; cases h
  cases hg : getNum l k with
  | none => rw [fGet, if_neg (by omega), Int.toNat_natCast, if_neg hz, hg] at h; cases h
  | some q =>
    obtain ⟨m, x⟩ := q
    have hm := getNum_pos hg hz
    have e : fGet l k = rBody l k m x := by rw [fGet_num hg hz, rBody_eq hg hm]
    rw [e] at h ⊢
    unfold rBody at h ⊢
    split at h
    · cases h
    rename_i h1
    rw [if_neg h1]
    split at h
    · cases h
    rename_i h2
    rw [if_neg h2]
    have hl : ((l.drop x).take m).length = m := by rw [List.length_take, List.length_drop]; omega
    simp only []
    refine ⟨by rw [hl]; exact hm, by rw [hl]; omega, trivial, ?_, ?_⟩
    · by_cases h3 : frameB ((l.drop x).take m) = (l.drop k).take (frameB ((l.drop x).take m)).length
      · exact h3.symm
      · exact absurd (.inr h3) h2
    · omega
theorem fAllF_frames : ∀ (f : Nat) (l : List UInt8) (k : Nat), k ≤ l.length → (∀ p ∈ (fAllF f l k).1, 1 ≤ p.length ∧ p.length ≤ 4000) ∧ (fAllF f l k).2 = ((k + ((fAllF f l k).1.flatMap frameB).length : Nat) : Int) ∧ k + ((fAllF f l k).1.flatMap frameB).length ≤ l.length ∧ (l.drop k).take ((fAllF f l k).1.flatMap frameB).length = (fAllF f l k).1.flatMap frameB
  | 0, l, k, hk => by simp [fAllF]; exact hk
  | f + 1, l, k, hk => by
    rw [fAllF]
    by_cases hw : (fGet l k).2.2 = 1
    · rw [if_pos hw]
      obtain ⟨h1, h2, h3, h4, h5⟩ := fGet_frame hw
      rw [h3]
      have ih := fAllF_frames f l (k + (frameB (fGet l k).1).length) h5
      generalize (fGet l k).1 = p at *
      generalize fAllF f l ((k + (frameB p).length : Nat) : Int) = r at *
      refine ⟨?_, ?_, ?_, ?_⟩
      · intro q hq
        rcases List.mem_cons.1 hq with rfl | hq
        · exact ⟨h1, h2⟩
        · exact ih.1 q hq
      · rw [ih.2.1, List.flatMap_cons, List.length_append]; omega
      · rw [List.flatMap_cons, List.length_append]; have := ih.2.2.1; omega
      · rw [List.flatMap_cons, List.length_append, List.take_add, h4, List.drop_drop, ih.2.2.2]
    · rw [if_neg hw]; simp; exact hk
theorem fAll_is (l : List UInt8) : (∀ p ∈ (fAll l 0).1, 1 ≤ p.length ∧ p.length ≤ 4000) ∧ (fAll l 0).2 = (((fAll l 0).1.flatMap frameB).length : Int) ∧ ((fAll l 0).1.flatMap frameB).length ≤ l.length ∧ l.take ((fAll l 0).1.flatMap frameB).length = (fAll l 0).1.flatMap frameB := by
  have := fAllF_frames (l.length + 1) l 0 (Nat.zero_le _)
  simp only [Nat.zero_add, List.drop_zero] at this
  exact this

end Go.Proofs.Ytmfbbonppmhabaa

namespace Go.Proofs.Ytmfbbonppmhabaa
set_option linter.unusedVariables false
set_option linter.unusedSimpArgs false
open Go.RowKit

theorem St.setBytes {w0 : World} {g n c : Nat} (j : Nat) : ∀ (vs : List UInt8) (o : Nat) (w : World) (r : List Thing) (l : List UInt8), r[j]? = some (bytesT (.slice (some ⟨g, 0, none⟩) n c) l) → o + vs.length ≤ l.length → St w0 w r →
    St w0 (w.setCells g o (vs.map bv)) (r.set j (bytesT (.slice (some ⟨g, 0, none⟩) n c) (splice l o vs)))
  | [], o, w, r, l, hj, _, S => by
    rw [splice_nil]
    have e : r.set j (bytesT (.slice (some ⟨g, 0, none⟩) n c) l) = r := by
      apply List.ext_getElem?
      intro i
      by_cases h : j = i
      · subst h; rw [List.getElem?_set_self (List.getElem?_eq_some_iff.1 hj).1, hj]
      · rw [List.getElem?_set_ne h]
    rw [e]; exact S
  | v :: vs, o, w, r, l, hj, ho, S => by
    have hjl := (List.getElem?_eq_some_iff.1 hj).1
    have h1 := S.setByte j hj (k := o) v
    have h2 := St.setBytes j vs (o + 1) _ _ (l.set o v) (by rw [List.getElem?_set_self hjl]) (by rw [List.length_set]; simp at ho; omega) h1
    rw [set_splice v vs (by simpa using ho), List.set_set] at h2
    exact h2
/-- `clear(b)`. -/
theorem St.clear {w0 w : World} {r : List Thing} (S : St w0 w r) (j : Nat) {a : Option Addr} {n c : Nat} {l : List UInt8} (hj : r[j]? = some (bytesT (.slice a n c) l)) (ty : TypeId) :
    ∃ v' w', (Builtin.clear_ #[27] ty #[.slice a n c]).run Try.prog w = .ok v' w' ∧ v' = .tuple #[] ∧ St w0 w' (r.set j (bytesT (.slice a n c) (List.replicate n 0))) := by
  have hs := S.slA j hj
  rcases Nat.eq_zero_or_pos n with h0 | h0
  · subst h0
    have hl : l = [] := List.eq_nil_of_length_eq_zero hs.1
    subst hl
    refine ⟨_, w, by cases a <;> simp [Builtin.clear_, run_underlying sliceB], rfl, ?_⟩
    have e : r.set j (bytesT (.slice a 0 c) (List.replicate 0 0)) = r := by
      apply List.ext_getElem?
      intro i
      by_cases h : j = i
      · subst h; rw [List.getElem?_set_self (List.getElem?_eq_some_iff.1 hj).1, hj]; rfl
      · rw [List.getElem?_set_ne h]
    rw [e]; exact S
  · obtain ⟨g, cap, e, _⟩ := (S.ownAt j hj).form (by rw [hs.1]; exact h0)
    have ea : a = some ⟨g, 0, none⟩ := by injection e
    subst ea
    have hown := S.ownAt j hj
    have hr := Lib.run_clear_slice (P := Try.prog) w 27 5 ty (.int .u8 0) sliceB (fun w => by kernel_rfl) rfl rfl g 0 n c h0
      (fun i hi => by rw [Nat.zero_add, hown.cellAt hs.1 i (by rw [hs.1]; exact hi)]; rfl) (fun i hi => by rw [Nat.zero_add]; exact hown.frz hs.1 i)
    refine ⟨_, _, hr, rfl, ?_⟩
    have h2 := St.setBytes j (List.replicate n 0) 0 w r l hj (by rw [List.length_replicate, hs.1]; omega) S
    rw [splice_end (by rw [List.length_replicate, hs.1]; omega), List.take_zero, List.nil_append, List.map_replicate] at h2
    exact h2
theorem wpList_clear {ops : Array Oper} {rest : List Oper} {o : Oper} {a : Act} {w : World} {Q : Exit → Act → World → Prop} (hw : Region.wanted o (yielded ops a.tmps) = true) (s : Operand) (t : TypeId)
    (ho : o.op = .call { callee := .builtin .clear, args := #[s], argTypes := #[t] }) {R : Value → World → Prop} (v : Value) (hs : a.eval s = v)
    (hr : ∃ v' w', (Builtin.clear_ #[t] o.type #[v]).run Try.prog w = .ok v' w' ∧ R v' w') (h : ∀ v' w', R v' w' → wpList Try.prog ops Q rest (a.put o.dst v') w') : wpList Try.prog ops Q (o :: rest) a w := by
  unfold wpList
  rw [if_pos hw]
  refine .inl ?_
  obtain ⟨v', w', hr, h2⟩ := hr
  unfold Oper.wp execOp
  simp only [ho, resolve, invoke, builtin, Sem.run_bind, Sem.run_pure, Result.andThen_ok, List.map_toArray, List.map_cons, List.map_nil, hs, hr]
  exact h v' w' h2

/-- What `noughts` makes of a disk. -/
def DSt.nought (d : DSt) (fr sz at_ : Nat) : DSt := (d.write ((fr + at_ : Nat) : Int) (List.replicate (sz - at_) 0)).sync
def logC (pd : Value) (fr sz used : Nat) : List Value := [pd, .int .i64 (fr : Int), .int .i64 (sz : Int), .int .i64 (used : Int)]

section
variable {w0 w : World} {tl : List Thing} {pd : Value} {d : DSt} {g fr sz used : Nat}
set_option maxRecDepth 10000 in
set_option maxHeartbeats 1600000 in
theorem noughts_any (S : St w0 w (cellsT g 99 (logC pd fr sz used) :: diskT pd d :: tl)) (at_ : Nat) (ha : at_ ≤ sz) (hf : fr + sz ≤ d.lasts.length) (hw : d.waits.length ≤ 1000) (hs : d.syncs < 100000000) :
    Calls Try.prog 56 #[.pointer (some ⟨g, 0, none⟩), .int .i64 at_] w fun e w' => e = .returned (.tuple #[]) ∧ St w0 w' (cellsT g 99 (logC pd fr sz used) :: diskT pd (d.nought fr sz at_) :: tl) := by
  have hd := S.disk 1 rfl
  obtain ⟨N, hN⟩ : ∃ N, d.lasts.length = N := ⟨_, rfl⟩
  rw [hN] at hd hf
  have HB := hid hd.2.2.2
  have hN6 := hd.2.2.1
  have hN1 := hd.2.1
  have HNl := hid hN
  have HW : Hid (d.can ((fr + at_ : Nat) : Int) (sz - at_) = 0) := by
    rw [Hid, DSt.can_code, DSt.code, if_neg (by omega), hN, if_neg (by omega)]
  clear hd hN
  have HC : Hid (∀ w', St w0 w' (cellsT g 99 (logC pd fr sz used) :: diskT pd d :: tl) → w'.cell? ⟨g, 0, none⟩ = some pd ∧ w'.cell? ⟨g, 1, none⟩ = some (.int .i64 (fr : Int)) ∧ w'.cell? ⟨g, 2, none⟩ = some (.int .i64 (sz : Int))) :=
    fun w' S' => ⟨S'.cell 0 rfl 0 rfl, S'.cell 0 rfl 1 rfl, S'.cell 0 rfl 2 rfl⟩
  have HNb : Hid (d.bytes.length = N) := by rw [Hid, HB.out]
  go_enter Try.func56, Try.ntmps56
  have hbnd : fr + sz ≤ 65536 := by omega
  have e1 : IntKind.i64.wrap ((fr : Int) + (at_ : Int)) = (fr : Int) + (at_ : Int) := by rw [IntKind.wrap_i64]; omega
  have e2 : IntKind.i64.wrap ((fr : Int) + (sz : Int)) = (fr : Int) + (sz : Int) := by rw [IntKind.wrap_i64]; omega
  go_wp2_with fail
  refine wp_region_held_drew (S := (fun w' => w'.cell? ⟨g, 0, none⟩ = some pd ∧ w'.cell? ⟨g, 1, none⟩ = some (.int .i64 (fr : Int)) ∧ w'.cell? ⟨g, 2, none⟩ = some (.int .i64 (sz : Int)))) (by kernel_rfl) (by exact HC.out _ S.drew) (fun hHeld => ?_)
  change wpAnyH _ _ _ _ _ 23 (Array.replicate 23 false) _ _
  refine wpAnyH_take (i := 0) (v := ?v1) (ops_at rfl) (by kernel_rfl) (by kernel_rfl) (by kernel_rfl) (fun _ _ _ h => h) (Or.inl ⟨by rfl, ?hy1⟩) (by assumption) ?rest1
  case hy1 => intro w' hSw; (try dsimp only at hSw); go_simp; try with_reducible rfl
  try simp only [Act.put, List.setIfInBounds_toArray, List.set_cons_zero, List.set_cons_succ]
  refine wpAnyH_take (i := 1) (v := ?v2) (ops_at rfl) (by kernel_rfl) (by kernel_rfl) (by kernel_rfl) (fun _ _ _ h => h) (Or.inl ⟨by rfl, ?hy2⟩) (by assumption) ?rest2
  case hy2 => intro w' hSw; (try dsimp only at hSw); go_simp; try with_reducible rfl
  try simp only [Act.put, List.setIfInBounds_toArray, List.set_cons_zero, List.set_cons_succ]
  refine wpAnyH_take (i := 2) (v := ?v3) (ops_at rfl) (by kernel_rfl) (by kernel_rfl) (by kernel_rfl) (fun _ _ _ h => h) (Or.inl ⟨by rfl, ?hy3⟩) (by assumption) ?rest3
  case hy3 => intro w' hSw; (try dsimp only at hSw); go_simp; try with_reducible rfl
  try simp only [Act.put, List.setIfInBounds_toArray, List.set_cons_zero, List.set_cons_succ]
  refine wpAnyH_take (i := 3) (v := ?v4) (ops_at rfl) (by kernel_rfl) (by kernel_rfl) (by kernel_rfl) (fun _ _ _ h => h) (Or.inl ⟨by rfl, ?hy4⟩) (by assumption) ?rest4
  case hy4 => intro w' hSw; (try dsimp only at hSw); go_simp; try with_reducible rfl
  try simp only [Act.put, List.setIfInBounds_toArray, List.set_cons_zero, List.set_cons_succ]
  refine wpAnyH_take (i := 5) (v := ?v5) (ops_at rfl) (by kernel_rfl) (by kernel_rfl) (by kernel_rfl) (fun _ _ _ h => h) (Or.inl ⟨by rfl, ?hy5⟩) (by assumption) ?rest5
  case hy5 => intro w' hSw; (try dsimp only at hSw); go_simp; try with_reducible rfl
  try simp only [Act.put, List.setIfInBounds_toArray, List.set_cons_zero, List.set_cons_succ]
  refine wpAnyH_take (i := 6) (v := ?v6) (ops_at rfl) (by kernel_rfl) (by kernel_rfl) (by kernel_rfl) (fun _ _ _ h => h) (Or.inl ⟨by rfl, ?hy6⟩) (by assumption) ?rest6
  case hy6 => intro w' hSw; (try dsimp only at hSw); go_simp; try with_reducible rfl
  try simp only [Act.put, List.setIfInBounds_toArray, List.set_cons_zero, List.set_cons_succ]
  refine wpAnyH_take (i := 7) (v := ?v7) (ops_at rfl) (by kernel_rfl) (by kernel_rfl) (by kernel_rfl) (fun _ _ _ h => h) (Or.inl ⟨by rfl, ?hy7⟩) (by assumption) ?rest7
  case hy7 => intro w' hSw; (try dsimp only at hSw); go_simp; try with_reducible rfl
  try simp only [Act.put, List.setIfInBounds_toArray, List.set_cons_zero, List.set_cons_succ]
  refine wpAnyH_take (i := 8) (v := ?v8) (ops_at rfl) (by kernel_rfl) (by kernel_rfl) (by kernel_rfl) (fun _ _ _ h => h) (Or.inl ⟨by rfl, ?hy8⟩) (by assumption) ?rest8
  case hy8 => intro w' hSw; (try dsimp only at hSw); go_simp; try with_reducible rfl
  try simp only [Act.put, List.setIfInBounds_toArray, List.set_cons_zero, List.set_cons_succ]
  refine wpAnyH_take (i := 9) (v := ?v9) (ops_at rfl) (by kernel_rfl) (by kernel_rfl) (by kernel_rfl) (fun _ _ _ h => h) (Or.inl ⟨by rfl, ?hy9⟩) (by assumption) ?rest9
  case hy9 => intro w' hSw; (try dsimp only at hSw); go_simp; try with_reducible rfl
  try simp only [Act.put, List.setIfInBounds_toArray, List.set_cons_zero, List.set_cons_succ]
  refine wpAnyH_take (i := 10) (v := ?v10) (ops_at rfl) (by kernel_rfl) (by kernel_rfl) (by kernel_rfl) (fun _ _ _ h => h) (Or.inl ⟨by rfl, ?hy10⟩) (by assumption) ?rest10
  case hy10 => intro w' hSw; (try dsimp only at hSw); go_simp; try with_reducible rfl
  try simp only [Act.put, List.setIfInBounds_toArray, List.set_cons_zero, List.set_cons_succ]
  refine wpAnyH_take (i := 11) (v := ?v11) (ops_at rfl) (by kernel_rfl) (by kernel_rfl) (by kernel_rfl) (fun _ _ _ h => h) (Or.inl ⟨by rfl, ?hy11⟩) (by assumption) ?rest11
  case hy11 => intro w' hSw; (try dsimp only at hSw); go_simp; try with_reducible rfl
  try simp only [Act.put, List.setIfInBounds_toArray, List.set_cons_zero, List.set_cons_succ]
  refine wpAnyH_take (i := 12) (v := ?v12) (ops_at rfl) (by kernel_rfl) (by kernel_rfl) (by kernel_rfl) (fun _ _ _ h => h) (Or.inl ⟨by rfl, ?hy12⟩) (by assumption) ?rest12
  case hy12 => intro w' hSw; (try dsimp only at hSw); go_simp; try with_reducible rfl
  try simp only [Act.put, List.setIfInBounds_toArray, List.set_cons_zero, List.set_cons_succ]
  refine wpAnyH_take (i := 13) (v := ?v13) (ops_at rfl) (by kernel_rfl) (by kernel_rfl) (by kernel_rfl) (fun _ _ _ h => h) (Or.inl ⟨by rfl, ?hy13⟩) (by assumption) ?rest13
  case hy13 => intro w' hSw; (try dsimp only at hSw); go_simp; try with_reducible rfl
  try simp only [Act.put, List.setIfInBounds_toArray, List.set_cons_zero, List.set_cons_succ]
  refine wpAnyH_take (i := 14) (v := ?v14) (ops_at rfl) (by kernel_rfl) (by kernel_rfl) (by kernel_rfl) (fun _ _ _ h => h) (Or.inl ⟨by rfl, ?hy14⟩) (by assumption) ?rest14
  case hy14 => intro w' hSw; (try dsimp only at hSw); go_simp; try with_reducible rfl
  try simp only [Act.put, List.setIfInBounds_toArray, List.set_cons_zero, List.set_cons_succ]
  refine wpAnyH_take (i := 15) (v := ?v15) (ops_at rfl) (by kernel_rfl) (by kernel_rfl) (by kernel_rfl) (fun _ _ _ h => h) (Or.inl ⟨by rfl, ?hy15⟩) (by assumption) ?rest15
  case hy15 => intro w' hSw; (try dsimp only at hSw); go_simp; try with_reducible rfl
  try simp only [Act.put, List.setIfInBounds_toArray, List.set_cons_zero, List.set_cons_succ]
  refine wpAnyH_take (i := 16) (v := ?v16) (ops_at rfl) (by kernel_rfl) (by kernel_rfl) (by kernel_rfl) (fun _ _ _ h => h) (Or.inl ⟨by rfl, ?hy16⟩) (by assumption) ?rest16
  case hy16 => intro w' hSw; (try dsimp only at hSw); go_simp; try with_reducible rfl
  try simp only [Act.put, List.setIfInBounds_toArray, List.set_cons_zero, List.set_cons_succ]
  refine wpAnyH_take (i := 17) (v := ?v17) (ops_at rfl) (by kernel_rfl) (by kernel_rfl) (by kernel_rfl) (fun _ _ _ h => h) (Or.inl ⟨by rfl, ?hy17⟩) (by assumption) ?rest17
  case hy17 => intro w' hSw; (try dsimp only at hSw); go_simp; try with_reducible rfl
  try simp only [Act.put, List.setIfInBounds_toArray, List.set_cons_zero, List.set_cons_succ]
  refine wpAnyH_take (i := 18) (v := ?v18) (ops_at rfl) (by kernel_rfl) (by kernel_rfl) (by kernel_rfl) (fun _ _ _ h => h) (Or.inl ⟨by rfl, ?hy18⟩) (by assumption) ?rest18
  case hy18 => intro w' hSw; (try dsimp only at hSw); go_simp; try with_reducible rfl
  try simp only [Act.put, List.setIfInBounds_toArray, List.set_cons_zero, List.set_cons_succ]
  refine wpAnyH_take (i := 19) (v := ?v19) (ops_at rfl) (by kernel_rfl) (by kernel_rfl) (by kernel_rfl) (fun _ _ _ h => h) (Or.inl ⟨by rfl, ?hy19⟩) (by assumption) ?rest19
  case hy19 => intro w' hSw; (try dsimp only at hSw); go_simp; try with_reducible rfl
  try simp only [Act.put, List.setIfInBounds_toArray, List.set_cons_zero, List.set_cons_succ]
  refine wpAnyH_ready (rs := [4]) (by kernel_rfl) (by simp) ?_
  refine AllReadyH.cons (ops_at rfl) (fun K hK => ?_) AllReadyH.nil
  go_simp
  refine (hbytes S.drew 1 rfl (by omega) N HNb.out).mono ?_
  rintro e w1 ⟨a1, c1, rfl, S1, -⟩
  have S1a := S1.init
  have hc1 := (S1.rot.slA 0 rfl).2.1
  have hA1 := S1.rot.at 0 rfl
  have ic := cut_lhI a1 N c1 (fr + at_) (fr + sz) ((fr : Int) + (at_ : Int)) ((fr : Int) + (sz : Int)) (by omega) (by omega) (by omega) (by omega)
  refine hK.out _ _ (by exact HC.out _ S1a) (fun hHeld => ?_)
  clear hK K
  try simp only [Act.put, List.setIfInBounds_toArray, List.set_cons_zero, List.set_cons_succ]
  refine wpAnyH_take (i := 20) (v := ?v21) (ops_at rfl) (by kernel_rfl) (by kernel_rfl) (by kernel_rfl) (fun _ _ _ h => h) (Or.inl ⟨by rfl, ?hy21⟩) (by assumption) ?rest21
  case hy21 => intro w' hSw; (try dsimp only at hSw); go_simp; try with_reducible rfl
  try simp only [Act.put, List.setIfInBounds_toArray, List.set_cons_zero, List.set_cons_succ]
  refine wpAnyH_ready (rs := [21]) (by kernel_rfl) (by simp) ?_
  refine AllReadyH.cons (ops_at rfl) (fun K hK => ?_) AllReadyH.nil
  go_simp
  refine (clone_any _ ((d.bytes.drop (fr + at_)).take (fr + sz - (fr + at_))) _ _ w1 (by rw [List.length_take, List.length_drop, HNb.out]; omega) (by omega) (fun h => by
    have hok := hA1.ok (by rw [HNb.out]; omega)
    unfold cutH at h
    split at h
    · omega
    · obtain ⟨y, rfl⟩ := Option.isSome_iff_exists.1 hok
      cases h) (by exact hA1.cut (fr + at_) (fr + sz - (fr + at_)) c1 (by omega))).mono ?_
  rintro e w2 ⟨v2, rfl, ho2, hb2⟩
  obtain ⟨a2, c2, rfl⟩ := ho2.written (n := sz - at_) (by rw [List.length_take, List.length_drop, HNb.out]; omega)
  have S2 := (S1a.bytes ho2 hb2).rot
  have S2t := S2.tail
  clear ho2 hb2
  refine hK.out _ _ (by exact HC.out _ S2t) (fun hHeld => ?_)
  clear hK K
  try simp only [Act.put, List.setIfInBounds_toArray, List.set_cons_zero, List.set_cons_succ]
  refine wpAnyH_take (i := 22) (v := ?v23) (ops_at rfl) (by kernel_rfl) (by kernel_rfl) (by kernel_rfl) (fun _ _ _ h => h) (Or.inl ⟨by rfl, ?hy23⟩) (by assumption) ?rest23
  case hy23 => intro w' hSw; (try dsimp only at hSw); go_simp; try with_reducible rfl
  try simp only [Act.put, List.setIfInBounds_toArray, List.set_cons_zero, List.set_cons_succ]
  refine wpAnyH_done (by kernel_rfl) ?_ _
  clear ic hA1
  go_wp2_with (refine wpList_clear (by rfl) (.tmp 27) 27 rfl _ rfl (S2.clear 0 rfl _) ?_; rintro v3 w3 ⟨rfl, S3⟩)
  have S3' : St w0 w3 (bytesT (.slice a2 (sz - at_) c2) (List.replicate (sz - at_) 0) :: cellsT g 99 (logC pd fr sz used) :: diskT pd d :: tl) := S3
  refine wp_region_held_drew (S := (fun w' => w'.cell? ⟨g, 0, none⟩ = some pd ∧ w'.cell? ⟨g, 1, none⟩ = some (.int .i64 (fr : Int)) ∧ w'.cell? ⟨g, 2, none⟩ = some (.int .i64 (sz : Int)))) (by kernel_rfl) (by exact HC.out _ S3'.drew.tail) (fun hHeld => ?_)
  change wpAnyH _ _ _ _ _ 12 (Array.replicate 12 false) _ _
  refine wpAnyH_take (i := 0) (v := ?v24) (ops_at rfl) (by kernel_rfl) (by kernel_rfl) (by kernel_rfl) (fun _ _ _ h => h) (Or.inl ⟨by rfl, ?hy24⟩) (by assumption) ?rest24
  case hy24 => intro w' hSw; (try dsimp only at hSw); go_simp; try with_reducible rfl
  try simp only [Act.put, List.setIfInBounds_toArray, List.set_cons_zero, List.set_cons_succ]
  refine wpAnyH_take (i := 1) (v := ?v25) (ops_at rfl) (by kernel_rfl) (by kernel_rfl) (by kernel_rfl) (fun _ _ _ h => h) (Or.inl ⟨by rfl, ?hy25⟩) (by assumption) ?rest25
  case hy25 => intro w' hSw; (try dsimp only at hSw); go_simp; try with_reducible rfl
  try simp only [Act.put, List.setIfInBounds_toArray, List.set_cons_zero, List.set_cons_succ]
  refine wpAnyH_take (i := 2) (v := ?v26) (ops_at rfl) (by kernel_rfl) (by kernel_rfl) (by kernel_rfl) (fun _ _ _ h => h) (Or.inl ⟨by rfl, ?hy26⟩) (by assumption) ?rest26
  case hy26 => intro w' hSw; (try dsimp only at hSw); go_simp; try with_reducible rfl
  try simp only [Act.put, List.setIfInBounds_toArray, List.set_cons_zero, List.set_cons_succ]
  refine wpAnyH_take (i := 3) (v := ?v27) (ops_at rfl) (by kernel_rfl) (by kernel_rfl) (by kernel_rfl) (fun _ _ _ h => h) (Or.inl ⟨by rfl, ?hy27⟩) (by assumption) ?rest27
  case hy27 => intro w' hSw; (try dsimp only at hSw); go_simp; try with_reducible rfl
  try simp only [Act.put, List.setIfInBounds_toArray, List.set_cons_zero, List.set_cons_succ]
  refine wpAnyH_take (i := 4) (v := ?v28) (ops_at rfl) (by kernel_rfl) (by kernel_rfl) (by kernel_rfl) (fun _ _ _ h => h) (Or.inl ⟨by rfl, ?hy28⟩) (by assumption) ?rest28
  case hy28 => intro w' hSw; (try dsimp only at hSw); go_simp; try with_reducible rfl
  try simp only [Act.put, List.setIfInBounds_toArray, List.set_cons_zero, List.set_cons_succ]
  refine wpAnyH_take (i := 5) (v := ?v29) (ops_at rfl) (by kernel_rfl) (by kernel_rfl) (by kernel_rfl) (fun _ _ _ h => h) (Or.inl ⟨by rfl, ?hy29⟩) (by assumption) ?rest29
  case hy29 => intro w' hSw; (try dsimp only at hSw); go_simp; try with_reducible rfl
  try simp only [Act.put, List.setIfInBounds_toArray, List.set_cons_zero, List.set_cons_succ]
  refine wpAnyH_take (i := 6) (v := ?v30) (ops_at rfl) (by kernel_rfl) (by kernel_rfl) (by kernel_rfl) (fun _ _ _ h => h) (Or.inl ⟨by rfl, ?hy30⟩) (by assumption) ?rest30
  case hy30 => intro w' hSw; (try dsimp only at hSw); go_simp; try with_reducible rfl
  try simp only [Act.put, List.setIfInBounds_toArray, List.set_cons_zero, List.set_cons_succ]
  refine wpAnyH_take (i := 7) (v := ?v31) (ops_at rfl) (by kernel_rfl) (by kernel_rfl) (by kernel_rfl) (fun _ _ _ h => h) (Or.inl ⟨by rfl, ?hy31⟩) (by assumption) ?rest31
  case hy31 => intro w' hSw; (try dsimp only at hSw); go_simp; try with_reducible rfl
  try simp only [Act.put, List.setIfInBounds_toArray, List.set_cons_zero, List.set_cons_succ]
  refine wpAnyH_take (i := 8) (v := ?v32) (ops_at rfl) (by kernel_rfl) (by kernel_rfl) (by kernel_rfl) (fun _ _ _ h => h) (Or.inl ⟨by rfl, ?hy32⟩) (by assumption) ?rest32
  case hy32 => intro w' hSw; (try dsimp only at hSw); go_simp; try with_reducible rfl
  try simp only [Act.put, List.setIfInBounds_toArray, List.set_cons_zero, List.set_cons_succ]
  refine wpAnyH_take (i := 9) (v := ?v33) (ops_at rfl) (by kernel_rfl) (by kernel_rfl) (by kernel_rfl) (fun _ _ _ h => h) (Or.inl ⟨by rfl, ?hy33⟩) (by assumption) ?rest33
  case hy33 => intro w' hSw; (try dsimp only at hSw); go_simp; try with_reducible rfl
  try simp only [Act.put, List.setIfInBounds_toArray, List.set_cons_zero, List.set_cons_succ]
  refine wpAnyH_take (i := 10) (v := ?v34) (ops_at rfl) (by kernel_rfl) (by kernel_rfl) (by kernel_rfl) (fun _ _ _ h => h) (Or.inl ⟨by rfl, ?hy34⟩) (by assumption) ?rest34
  case hy34 => intro w' hSw; (try dsimp only at hSw); go_simp; try with_reducible rfl
  try simp only [Act.put, List.setIfInBounds_toArray, List.set_cons_zero, List.set_cons_succ]
  refine wpAnyH_ready (rs := [11]) (by kernel_rfl) (by simp) ?_
  refine AllReadyH.cons (ops_at rfl) (fun K hK => ?_) AllReadyH.nil
  go_simp
  refine (hwrite S3'.drew 2 rfl _ a2 (List.replicate (sz - at_) 0) (sz - at_) c2 0 (by have := HW.out; rwa [Int.natCast_add] at this) (by simp) (by omega) (by omega) (by exact (S3'.drew.slA 0 rfl).2.2.2.1) (by exact S3'.drew.at 0 rfl)).mono ?_
  rintro e w4 ⟨rfl, S4⟩
  have c4 : w4.cell? ⟨g, 0, none⟩ = some pd := S4.cell 1 rfl 0 rfl
  refine hK.out _ _ (by exact ⟨S4.cell 1 rfl 0 rfl, S4.cell 1 rfl 1 rfl, S4.cell 1 rfl 2 rfl⟩) (fun hHeld => ?_)
  clear hK K
  try simp only [Act.put, List.setIfInBounds_toArray, List.set_cons_zero, List.set_cons_succ]
  refine wpAnyH_done (by kernel_rfl) ?_ _
  go_wp2_with fail
  refine (hsync S4 2 rfl (Nat.le_trans (DSt.write_waits _ _ _) (by omega)) (by rw [DSt.write_syncs]; omega)).mono ?_
  rintro e w5 ⟨rfl, S5⟩
  go_wp2
  refine bodyPost_end (results_none rfl _ _ _) rfl ⟨rfl, ?_⟩
  have S6 := S5.tail
  unfold DSt.nought
  rw [Int.natCast_add]
  exact S6
/-- Is there room for a payload? -/
def roomB (sz used : Nat) (n : Int) : Bool := decide (1 ≤ n) && (decide (n ≤ 4000) && decide (((codeNum n).length : Int) + n + 5 ≤ (sz : Int) - (used : Int)))
set_option maxRecDepth 10000 in
set_option maxHeartbeats 1600000 in
theorem room_any (S : St w0 w (cellsT g 99 (logC pd fr sz used) :: tl)) (n : Int) (hsz : sz ≤ 65536) (hu : used ≤ 65536) :
    Calls Try.prog 37 #[.pointer (some ⟨g, 0, none⟩), .int .i64 n] w fun e w' => e = .returned (.bool (roomB sz used n)) ∧ St w0 w' (cellsT g 99 (logC pd fr sz used) :: tl) ∧ Below w.heap.size w w' := by
  by_cases q1 : n < 1
  · have e : roomB sz used n = false := by unfold roomB; rw [decide_eq_false (by omega)]; rfl
    have g1 : decide (1 ≤ n) = false := decide_eq_false (by omega)
    rw [e]
    clear e
    go_enter Try.func37, Try.ntmps37
    go_wp2_with fail
    refine wp_region_held_drew (S := (fun _ => True)) (by kernel_rfl) (by trivial) (fun hHeld => ?_)
    change wpAnyH _ _ _ _ _ 29 (Array.replicate 29 false) _ _
    refine wpAnyH_take (i := 0) (v := ?v36) (ops_at rfl) (by kernel_rfl) (by kernel_rfl) (by kernel_rfl) (fun _ _ _ h => h) (Or.inl ⟨by rfl, ?hy36⟩) (by assumption) ?rest36
    case hy36 => intro w' hSw; (try dsimp only at hSw); go_simp; try with_reducible rfl
    try simp only [Act.put, List.setIfInBounds_toArray, List.set_cons_zero, List.set_cons_succ]
    refine wpAnyH_take (i := 1) (v := ?v37) (ops_at rfl) (by kernel_rfl) (by kernel_rfl) (by kernel_rfl) (fun _ _ _ h => h) (Or.inl ⟨by rfl, ?hy37⟩) (by assumption) ?rest37
    case hy37 => intro w' hSw; (try dsimp only at hSw); go_simp; try with_reducible rfl
    try simp only [Act.put, List.setIfInBounds_toArray, List.set_cons_zero, List.set_cons_succ]
    refine wpAnyH_take (i := 2) (v := ?v38) (ops_at rfl) (by kernel_rfl) (by kernel_rfl) (by kernel_rfl) (fun _ _ _ h => h) (Or.inl ⟨by rfl, ?hy38⟩) (by assumption) ?rest38
    case hy38 => intro w' hSw; (try dsimp only at hSw); go_simp; try with_reducible rfl
    try simp only [Act.put, List.setIfInBounds_toArray, List.set_cons_zero, List.set_cons_succ]
    refine wpAnyH_take (i := 3) (v := ?v39) (ops_at rfl) (by kernel_rfl) (by kernel_rfl) (by kernel_rfl) (fun _ _ _ h => h) (Or.inl ⟨by rfl, ?hy39⟩) (by assumption) ?rest39
    case hy39 => intro w' hSw; (try dsimp only at hSw); go_simp; try with_reducible rfl
    try simp only [Act.put, List.setIfInBounds_toArray, List.set_cons_zero, List.set_cons_succ]
    refine wpAnyH_take (i := 4) (v := ?v40) (ops_at rfl) (by kernel_rfl) (by kernel_rfl) (by kernel_rfl) (fun _ _ _ h => h) (Or.inl ⟨by rfl, ?hy40⟩) (by assumption) ?rest40
    case hy40 => intro w' hSw; (try dsimp only at hSw); go_simp; try with_reducible rfl
    try simp only [Act.put, List.setIfInBounds_toArray, List.set_cons_zero, List.set_cons_succ]
    refine wpAnyH_take (i := 5) (v := ?v41) (ops_at rfl) (by kernel_rfl) (by kernel_rfl) (by kernel_rfl) (fun _ _ _ h => h) (Or.inl ⟨by rfl, ?hy41⟩) (by assumption) ?rest41
    case hy41 => intro w' hSw; (try dsimp only at hSw); go_simp; try with_reducible rfl
    try simp only [Act.put, List.setIfInBounds_toArray, List.set_cons_zero, List.set_cons_succ]
    refine wpAnyH_take (i := 6) (v := ?v42) (ops_at rfl) (by kernel_rfl) (by kernel_rfl) (by kernel_rfl) (fun _ _ _ h => h) (Or.inl ⟨by rfl, ?hy42⟩) (by assumption) ?rest42
    case hy42 => intro w' hSw; (try dsimp only at hSw); go_simp; try with_reducible rfl
    try simp only [Act.put, List.setIfInBounds_toArray, List.set_cons_zero, List.set_cons_succ]
    refine wpAnyH_take (i := 7) (v := undef) (ops_at rfl) (by kernel_rfl) (by kernel_rfl) (by kernel_rfl) (fun _ _ _ h => h) (Or.inr ⟨by rfl, rfl⟩) (by assumption) ?rest43
    try simp only [Act.put, List.setIfInBounds_toArray, List.set_cons_zero, List.set_cons_succ]
    refine wpAnyH_take (i := 8) (v := undef) (ops_at rfl) (by kernel_rfl) (by kernel_rfl) (by kernel_rfl) (fun _ _ _ h => h) (Or.inr ⟨by rfl, rfl⟩) (by assumption) ?rest44
    try simp only [Act.put, List.setIfInBounds_toArray, List.set_cons_zero, List.set_cons_succ]
    refine wpAnyH_take (i := 9) (v := ?v45) (ops_at rfl) (by kernel_rfl) (by kernel_rfl) (by kernel_rfl) (fun _ _ _ h => h) (Or.inl ⟨by rfl, ?hy45⟩) (by assumption) ?rest45
    case hy45 => intro w' hSw; (try dsimp only at hSw); go_simp; try with_reducible rfl
    try simp only [Act.put, List.setIfInBounds_toArray, List.set_cons_zero, List.set_cons_succ]
    refine wpAnyH_take (i := 10) (v := ?v46) (ops_at rfl) (by kernel_rfl) (by kernel_rfl) (by kernel_rfl) (fun _ _ _ h => h) (Or.inl ⟨by rfl, ?hy46⟩) (by assumption) ?rest46
    case hy46 => intro w' hSw; (try dsimp only at hSw); go_simp; try with_reducible rfl
    try simp only [Act.put, List.setIfInBounds_toArray, List.set_cons_zero, List.set_cons_succ]
    refine wpAnyH_take (i := 11) (v := undef) (ops_at rfl) (by kernel_rfl) (by kernel_rfl) (by kernel_rfl) (fun _ _ _ h => h) (Or.inr ⟨by rfl, rfl⟩) (by assumption) ?rest47
    try simp only [Act.put, List.setIfInBounds_toArray, List.set_cons_zero, List.set_cons_succ]
    refine wpAnyH_take (i := 12) (v := undef) (ops_at rfl) (by kernel_rfl) (by kernel_rfl) (by kernel_rfl) (fun _ _ _ h => h) (Or.inr ⟨by rfl, rfl⟩) (by assumption) ?rest48
    try simp only [Act.put, List.setIfInBounds_toArray, List.set_cons_zero, List.set_cons_succ]
    refine wpAnyH_take (i := 13) (v := undef) (ops_at rfl) (by kernel_rfl) (by kernel_rfl) (by kernel_rfl) (fun _ _ _ h => h) (Or.inr ⟨by rfl, rfl⟩) (by assumption) ?rest49
    try simp only [Act.put, List.setIfInBounds_toArray, List.set_cons_zero, List.set_cons_succ]
    refine wpAnyH_take (i := 14) (v := undef) (ops_at rfl) (by kernel_rfl) (by kernel_rfl) (by kernel_rfl) (fun _ _ _ h => h) (Or.inr ⟨by rfl, rfl⟩) (by assumption) ?rest50
    try simp only [Act.put, List.setIfInBounds_toArray, List.set_cons_zero, List.set_cons_succ]
    refine wpAnyH_take (i := 15) (v := undef) (ops_at rfl) (by kernel_rfl) (by kernel_rfl) (by kernel_rfl) (fun _ _ _ h => h) (Or.inr ⟨by rfl, rfl⟩) (by assumption) ?rest51
    try simp only [Act.put, List.setIfInBounds_toArray, List.set_cons_zero, List.set_cons_succ]
    refine wpAnyH_take (i := 16) (v := undef) (ops_at rfl) (by kernel_rfl) (by kernel_rfl) (by kernel_rfl) (fun _ _ _ h => h) (Or.inr ⟨by rfl, rfl⟩) (by assumption) ?rest52
    try simp only [Act.put, List.setIfInBounds_toArray, List.set_cons_zero, List.set_cons_succ]
    refine wpAnyH_take (i := 17) (v := undef) (ops_at rfl) (by kernel_rfl) (by kernel_rfl) (by kernel_rfl) (fun _ _ _ h => h) (Or.inr ⟨by rfl, rfl⟩) (by assumption) ?rest53
    try simp only [Act.put, List.setIfInBounds_toArray, List.set_cons_zero, List.set_cons_succ]
    refine wpAnyH_take (i := 18) (v := undef) (ops_at rfl) (by kernel_rfl) (by kernel_rfl) (by kernel_rfl) (fun _ _ _ h => h) (Or.inr ⟨by rfl, rfl⟩) (by assumption) ?rest54
    try simp only [Act.put, List.setIfInBounds_toArray, List.set_cons_zero, List.set_cons_succ]
    refine wpAnyH_take (i := 19) (v := undef) (ops_at rfl) (by kernel_rfl) (by kernel_rfl) (by kernel_rfl) (fun _ _ _ h => h) (Or.inr ⟨by rfl, rfl⟩) (by assumption) ?rest55
    try simp only [Act.put, List.setIfInBounds_toArray, List.set_cons_zero, List.set_cons_succ]
    refine wpAnyH_take (i := 20) (v := undef) (ops_at rfl) (by kernel_rfl) (by kernel_rfl) (by kernel_rfl) (fun _ _ _ h => h) (Or.inr ⟨by rfl, rfl⟩) (by assumption) ?rest56
    try simp only [Act.put, List.setIfInBounds_toArray, List.set_cons_zero, List.set_cons_succ]
    refine wpAnyH_take (i := 21) (v := undef) (ops_at rfl) (by kernel_rfl) (by kernel_rfl) (by kernel_rfl) (fun _ _ _ h => h) (Or.inr ⟨by rfl, rfl⟩) (by assumption) ?rest57
    try simp only [Act.put, List.setIfInBounds_toArray, List.set_cons_zero, List.set_cons_succ]
    refine wpAnyH_take (i := 22) (v := undef) (ops_at rfl) (by kernel_rfl) (by kernel_rfl) (by kernel_rfl) (fun _ _ _ h => h) (Or.inr ⟨by rfl, rfl⟩) (by assumption) ?rest58
    try simp only [Act.put, List.setIfInBounds_toArray, List.set_cons_zero, List.set_cons_succ]
    refine wpAnyH_take (i := 23) (v := undef) (ops_at rfl) (by kernel_rfl) (by kernel_rfl) (by kernel_rfl) (fun _ _ _ h => h) (Or.inr ⟨by rfl, rfl⟩) (by assumption) ?rest59
    try simp only [Act.put, List.setIfInBounds_toArray, List.set_cons_zero, List.set_cons_succ]
    refine wpAnyH_take (i := 24) (v := undef) (ops_at rfl) (by kernel_rfl) (by kernel_rfl) (by kernel_rfl) (fun _ _ _ h => h) (Or.inr ⟨by rfl, rfl⟩) (by assumption) ?rest60
    try simp only [Act.put, List.setIfInBounds_toArray, List.set_cons_zero, List.set_cons_succ]
    refine wpAnyH_take (i := 25) (v := undef) (ops_at rfl) (by kernel_rfl) (by kernel_rfl) (by kernel_rfl) (fun _ _ _ h => h) (Or.inr ⟨by rfl, rfl⟩) (by assumption) ?rest61
    try simp only [Act.put, List.setIfInBounds_toArray, List.set_cons_zero, List.set_cons_succ]
    refine wpAnyH_take (i := 26) (v := undef) (ops_at rfl) (by kernel_rfl) (by kernel_rfl) (by kernel_rfl) (fun _ _ _ h => h) (Or.inr ⟨by rfl, rfl⟩) (by assumption) ?rest62
    try simp only [Act.put, List.setIfInBounds_toArray, List.set_cons_zero, List.set_cons_succ]
    refine wpAnyH_take (i := 27) (v := ?v63) (ops_at rfl) (by kernel_rfl) (by kernel_rfl) (by kernel_rfl) (fun _ _ _ h => h) (Or.inl ⟨by rfl, ?hy63⟩) (by assumption) ?rest63
    case hy63 => intro w' hSw; (try dsimp only at hSw); go_simp; try with_reducible rfl
    try simp only [Act.put, List.setIfInBounds_toArray, List.set_cons_zero, List.set_cons_succ]
    refine wpAnyH_take (i := 28) (v := ?v64) (ops_at rfl) (by kernel_rfl) (by kernel_rfl) (by kernel_rfl) (fun _ _ _ h => h) (Or.inl ⟨by rfl, ?hy64⟩) (by assumption) ?rest64
    case hy64 => intro w' hSw; (try dsimp only at hSw); go_simp; try with_reducible rfl
    try simp only [Act.put, List.setIfInBounds_toArray, List.set_cons_zero, List.set_cons_succ]
    refine wpAnyH_done (by kernel_rfl) ?_ _
    go_wp2
    go_ret
    exact ⟨rfl, S.drew, (Below.refl _ _).drew⟩
  have g1 : decide (1 ≤ n) = true := decide_eq_true (by omega)
  by_cases q2 : 4000 < n
  · have e : roomB sz used n = false := by unfold roomB; rw [decide_eq_false (by omega : ¬ n ≤ 4000)]; simp
    have g2 : decide (n ≤ 4000) = false := decide_eq_false (by omega)
    rw [e]
    clear e
    go_enter Try.func37, Try.ntmps37
    go_wp2_with fail
    refine wp_region_held_drew (S := (fun _ => True)) (by kernel_rfl) (by trivial) (fun hHeld => ?_)
    change wpAnyH _ _ _ _ _ 29 (Array.replicate 29 false) _ _
    refine wpAnyH_take (i := 0) (v := ?v65) (ops_at rfl) (by kernel_rfl) (by kernel_rfl) (by kernel_rfl) (fun _ _ _ h => h) (Or.inl ⟨by rfl, ?hy65⟩) (by assumption) ?rest65
    case hy65 => intro w' hSw; (try dsimp only at hSw); go_simp; try with_reducible rfl
    try simp only [Act.put, List.setIfInBounds_toArray, List.set_cons_zero, List.set_cons_succ]
    refine wpAnyH_take (i := 1) (v := ?v66) (ops_at rfl) (by kernel_rfl) (by kernel_rfl) (by kernel_rfl) (fun _ _ _ h => h) (Or.inl ⟨by rfl, ?hy66⟩) (by assumption) ?rest66
    case hy66 => intro w' hSw; (try dsimp only at hSw); go_simp; try with_reducible rfl
    try simp only [Act.put, List.setIfInBounds_toArray, List.set_cons_zero, List.set_cons_succ]
    refine wpAnyH_take (i := 2) (v := ?v67) (ops_at rfl) (by kernel_rfl) (by kernel_rfl) (by kernel_rfl) (fun _ _ _ h => h) (Or.inl ⟨by rfl, ?hy67⟩) (by assumption) ?rest67
    case hy67 => intro w' hSw; (try dsimp only at hSw); go_simp; try with_reducible rfl
    try simp only [Act.put, List.setIfInBounds_toArray, List.set_cons_zero, List.set_cons_succ]
    refine wpAnyH_take (i := 3) (v := ?v68) (ops_at rfl) (by kernel_rfl) (by kernel_rfl) (by kernel_rfl) (fun _ _ _ h => h) (Or.inl ⟨by rfl, ?hy68⟩) (by assumption) ?rest68
    case hy68 => intro w' hSw; (try dsimp only at hSw); go_simp; try with_reducible rfl
    try simp only [Act.put, List.setIfInBounds_toArray, List.set_cons_zero, List.set_cons_succ]
    refine wpAnyH_take (i := 4) (v := ?v69) (ops_at rfl) (by kernel_rfl) (by kernel_rfl) (by kernel_rfl) (fun _ _ _ h => h) (Or.inl ⟨by rfl, ?hy69⟩) (by assumption) ?rest69
    case hy69 => intro w' hSw; (try dsimp only at hSw); go_simp; try with_reducible rfl
    try simp only [Act.put, List.setIfInBounds_toArray, List.set_cons_zero, List.set_cons_succ]
    refine wpAnyH_take (i := 5) (v := ?v70) (ops_at rfl) (by kernel_rfl) (by kernel_rfl) (by kernel_rfl) (fun _ _ _ h => h) (Or.inl ⟨by rfl, ?hy70⟩) (by assumption) ?rest70
    case hy70 => intro w' hSw; (try dsimp only at hSw); go_simp; try with_reducible rfl
    try simp only [Act.put, List.setIfInBounds_toArray, List.set_cons_zero, List.set_cons_succ]
    refine wpAnyH_take (i := 6) (v := ?v71) (ops_at rfl) (by kernel_rfl) (by kernel_rfl) (by kernel_rfl) (fun _ _ _ h => h) (Or.inl ⟨by rfl, ?hy71⟩) (by assumption) ?rest71
    case hy71 => intro w' hSw; (try dsimp only at hSw); go_simp; try with_reducible rfl
    try simp only [Act.put, List.setIfInBounds_toArray, List.set_cons_zero, List.set_cons_succ]
    refine wpAnyH_take (i := 7) (v := ?v72) (ops_at rfl) (by kernel_rfl) (by kernel_rfl) (by kernel_rfl) (fun _ _ _ h => h) (Or.inl ⟨by rfl, ?hy72⟩) (by assumption) ?rest72
    case hy72 => intro w' hSw; (try dsimp only at hSw); go_simp; try with_reducible rfl
    try simp only [Act.put, List.setIfInBounds_toArray, List.set_cons_zero, List.set_cons_succ]
    refine wpAnyH_take (i := 8) (v := ?v73) (ops_at rfl) (by kernel_rfl) (by kernel_rfl) (by kernel_rfl) (fun _ _ _ h => h) (Or.inl ⟨by rfl, ?hy73⟩) (by assumption) ?rest73
    case hy73 => intro w' hSw; (try dsimp only at hSw); go_simp; try with_reducible rfl
    try simp only [Act.put, List.setIfInBounds_toArray, List.set_cons_zero, List.set_cons_succ]
    refine wpAnyH_take (i := 9) (v := ?v74) (ops_at rfl) (by kernel_rfl) (by kernel_rfl) (by kernel_rfl) (fun _ _ _ h => h) (Or.inl ⟨by rfl, ?hy74⟩) (by assumption) ?rest74
    case hy74 => intro w' hSw; (try dsimp only at hSw); go_simp; try with_reducible rfl
    try simp only [Act.put, List.setIfInBounds_toArray, List.set_cons_zero, List.set_cons_succ]
    refine wpAnyH_take (i := 10) (v := ?v75) (ops_at rfl) (by kernel_rfl) (by kernel_rfl) (by kernel_rfl) (fun _ _ _ h => h) (Or.inl ⟨by rfl, ?hy75⟩) (by assumption) ?rest75
    case hy75 => intro w' hSw; (try dsimp only at hSw); go_simp; try with_reducible rfl
    try simp only [Act.put, List.setIfInBounds_toArray, List.set_cons_zero, List.set_cons_succ]
    refine wpAnyH_take (i := 11) (v := undef) (ops_at rfl) (by kernel_rfl) (by kernel_rfl) (by kernel_rfl) (fun _ _ _ h => h) (Or.inr ⟨by rfl, rfl⟩) (by assumption) ?rest76
    try simp only [Act.put, List.setIfInBounds_toArray, List.set_cons_zero, List.set_cons_succ]
    refine wpAnyH_take (i := 12) (v := undef) (ops_at rfl) (by kernel_rfl) (by kernel_rfl) (by kernel_rfl) (fun _ _ _ h => h) (Or.inr ⟨by rfl, rfl⟩) (by assumption) ?rest77
    try simp only [Act.put, List.setIfInBounds_toArray, List.set_cons_zero, List.set_cons_succ]
    refine wpAnyH_take (i := 13) (v := undef) (ops_at rfl) (by kernel_rfl) (by kernel_rfl) (by kernel_rfl) (fun _ _ _ h => h) (Or.inr ⟨by rfl, rfl⟩) (by assumption) ?rest78
    try simp only [Act.put, List.setIfInBounds_toArray, List.set_cons_zero, List.set_cons_succ]
    refine wpAnyH_take (i := 14) (v := undef) (ops_at rfl) (by kernel_rfl) (by kernel_rfl) (by kernel_rfl) (fun _ _ _ h => h) (Or.inr ⟨by rfl, rfl⟩) (by assumption) ?rest79
    try simp only [Act.put, List.setIfInBounds_toArray, List.set_cons_zero, List.set_cons_succ]
    refine wpAnyH_take (i := 15) (v := undef) (ops_at rfl) (by kernel_rfl) (by kernel_rfl) (by kernel_rfl) (fun _ _ _ h => h) (Or.inr ⟨by rfl, rfl⟩) (by assumption) ?rest80
    try simp only [Act.put, List.setIfInBounds_toArray, List.set_cons_zero, List.set_cons_succ]
    refine wpAnyH_take (i := 16) (v := undef) (ops_at rfl) (by kernel_rfl) (by kernel_rfl) (by kernel_rfl) (fun _ _ _ h => h) (Or.inr ⟨by rfl, rfl⟩) (by assumption) ?rest81
    try simp only [Act.put, List.setIfInBounds_toArray, List.set_cons_zero, List.set_cons_succ]
    refine wpAnyH_take (i := 17) (v := undef) (ops_at rfl) (by kernel_rfl) (by kernel_rfl) (by kernel_rfl) (fun _ _ _ h => h) (Or.inr ⟨by rfl, rfl⟩) (by assumption) ?rest82
    try simp only [Act.put, List.setIfInBounds_toArray, List.set_cons_zero, List.set_cons_succ]
    refine wpAnyH_take (i := 18) (v := undef) (ops_at rfl) (by kernel_rfl) (by kernel_rfl) (by kernel_rfl) (fun _ _ _ h => h) (Or.inr ⟨by rfl, rfl⟩) (by assumption) ?rest83
    try simp only [Act.put, List.setIfInBounds_toArray, List.set_cons_zero, List.set_cons_succ]
    refine wpAnyH_take (i := 19) (v := undef) (ops_at rfl) (by kernel_rfl) (by kernel_rfl) (by kernel_rfl) (fun _ _ _ h => h) (Or.inr ⟨by rfl, rfl⟩) (by assumption) ?rest84
    try simp only [Act.put, List.setIfInBounds_toArray, List.set_cons_zero, List.set_cons_succ]
    refine wpAnyH_take (i := 20) (v := undef) (ops_at rfl) (by kernel_rfl) (by kernel_rfl) (by kernel_rfl) (fun _ _ _ h => h) (Or.inr ⟨by rfl, rfl⟩) (by assumption) ?rest85
    try simp only [Act.put, List.setIfInBounds_toArray, List.set_cons_zero, List.set_cons_succ]
    refine wpAnyH_take (i := 21) (v := undef) (ops_at rfl) (by kernel_rfl) (by kernel_rfl) (by kernel_rfl) (fun _ _ _ h => h) (Or.inr ⟨by rfl, rfl⟩) (by assumption) ?rest86
    try simp only [Act.put, List.setIfInBounds_toArray, List.set_cons_zero, List.set_cons_succ]
    refine wpAnyH_take (i := 22) (v := undef) (ops_at rfl) (by kernel_rfl) (by kernel_rfl) (by kernel_rfl) (fun _ _ _ h => h) (Or.inr ⟨by rfl, rfl⟩) (by assumption) ?rest87
    try simp only [Act.put, List.setIfInBounds_toArray, List.set_cons_zero, List.set_cons_succ]
    refine wpAnyH_take (i := 23) (v := undef) (ops_at rfl) (by kernel_rfl) (by kernel_rfl) (by kernel_rfl) (fun _ _ _ h => h) (Or.inr ⟨by rfl, rfl⟩) (by assumption) ?rest88
    try simp only [Act.put, List.setIfInBounds_toArray, List.set_cons_zero, List.set_cons_succ]
    refine wpAnyH_take (i := 24) (v := undef) (ops_at rfl) (by kernel_rfl) (by kernel_rfl) (by kernel_rfl) (fun _ _ _ h => h) (Or.inr ⟨by rfl, rfl⟩) (by assumption) ?rest89
    try simp only [Act.put, List.setIfInBounds_toArray, List.set_cons_zero, List.set_cons_succ]
    refine wpAnyH_take (i := 25) (v := undef) (ops_at rfl) (by kernel_rfl) (by kernel_rfl) (by kernel_rfl) (fun _ _ _ h => h) (Or.inr ⟨by rfl, rfl⟩) (by assumption) ?rest90
    try simp only [Act.put, List.setIfInBounds_toArray, List.set_cons_zero, List.set_cons_succ]
    refine wpAnyH_take (i := 26) (v := undef) (ops_at rfl) (by kernel_rfl) (by kernel_rfl) (by kernel_rfl) (fun _ _ _ h => h) (Or.inr ⟨by rfl, rfl⟩) (by assumption) ?rest91
    try simp only [Act.put, List.setIfInBounds_toArray, List.set_cons_zero, List.set_cons_succ]
    refine wpAnyH_take (i := 27) (v := ?v92) (ops_at rfl) (by kernel_rfl) (by kernel_rfl) (by kernel_rfl) (fun _ _ _ h => h) (Or.inl ⟨by rfl, ?hy92⟩) (by assumption) ?rest92
    case hy92 => intro w' hSw; (try dsimp only at hSw); go_simp; try with_reducible rfl
    try simp only [Act.put, List.setIfInBounds_toArray, List.set_cons_zero, List.set_cons_succ]
    refine wpAnyH_take (i := 28) (v := ?v93) (ops_at rfl) (by kernel_rfl) (by kernel_rfl) (by kernel_rfl) (fun _ _ _ h => h) (Or.inl ⟨by rfl, ?hy93⟩) (by assumption) ?rest93
    case hy93 => intro w' hSw; (try dsimp only at hSw); go_simp; try with_reducible rfl
    try simp only [Act.put, List.setIfInBounds_toArray, List.set_cons_zero, List.set_cons_succ]
    refine wpAnyH_done (by kernel_rfl) ?_ _
    go_wp2
    go_ret
    exact ⟨rfl, S.drew, (Below.refl _ _).drew⟩
  have g2 : decide (n ≤ 4000) = true := decide_eq_true (by omega)
  obtain ⟨c, hc⟩ : ∃ c, (codeNum n).length = c := ⟨_, rfl⟩
  have hc8 : c ≤ 8 := by rw [← hc]; exact codeNum_len n
  have e : roomB sz used n = decide ((c : Int) + n + 5 ≤ (sz : Int) - (used : Int)) := by unfold roomB; rw [g1, g2, hc]; simp
  rw [e]
  have HC := hid hc
  have e1 : IntKind.i64.wrap ((c : Int) + n) = (c : Int) + n := by rw [IntKind.wrap_i64]; omega
  have e2 : IntKind.i64.wrap ((c : Int) + n + 5) = (c : Int) + n + 5 := by rw [IntKind.wrap_i64]; omega
  have e3 : IntKind.i64.wrap ((sz : Int) - (used : Int)) = (sz : Int) - (used : Int) := by rw [IntKind.wrap_i64]; omega
  clear e hc
  go_enter Try.func37, Try.ntmps37
  go_wp2_with fail
  refine wp_region_held_drew (S := (fun w' => w'.cell? ⟨g, 2, none⟩ = some (.int .i64 (sz : Int)) ∧ w'.cell? ⟨g, 3, none⟩ = some (.int .i64 (used : Int)))) (by kernel_rfl) (by exact ⟨S.drew.cell 0 rfl 2 rfl, S.drew.cell 0 rfl 3 rfl⟩) (fun hHeld => ?_)
  change wpAnyH _ _ _ _ _ 29 (Array.replicate 29 false) _ _
  refine wpAnyH_take (i := 0) (v := ?v94) (ops_at rfl) (by kernel_rfl) (by kernel_rfl) (by kernel_rfl) (fun _ _ _ h => h) (Or.inl ⟨by rfl, ?hy94⟩) (by assumption) ?rest94
  case hy94 => intro w' hSw; (try dsimp only at hSw); go_simp; try with_reducible rfl
  try simp only [Act.put, List.setIfInBounds_toArray, List.set_cons_zero, List.set_cons_succ]
  refine wpAnyH_take (i := 1) (v := ?v95) (ops_at rfl) (by kernel_rfl) (by kernel_rfl) (by kernel_rfl) (fun _ _ _ h => h) (Or.inl ⟨by rfl, ?hy95⟩) (by assumption) ?rest95
  case hy95 => intro w' hSw; (try dsimp only at hSw); go_simp; try with_reducible rfl
  try simp only [Act.put, List.setIfInBounds_toArray, List.set_cons_zero, List.set_cons_succ]
  refine wpAnyH_take (i := 2) (v := ?v96) (ops_at rfl) (by kernel_rfl) (by kernel_rfl) (by kernel_rfl) (fun _ _ _ h => h) (Or.inl ⟨by rfl, ?hy96⟩) (by assumption) ?rest96
  case hy96 => intro w' hSw; (try dsimp only at hSw); go_simp; try with_reducible rfl
  try simp only [Act.put, List.setIfInBounds_toArray, List.set_cons_zero, List.set_cons_succ]
  refine wpAnyH_take (i := 3) (v := ?v97) (ops_at rfl) (by kernel_rfl) (by kernel_rfl) (by kernel_rfl) (fun _ _ _ h => h) (Or.inl ⟨by rfl, ?hy97⟩) (by assumption) ?rest97
  case hy97 => intro w' hSw; (try dsimp only at hSw); go_simp; try with_reducible rfl
  try simp only [Act.put, List.setIfInBounds_toArray, List.set_cons_zero, List.set_cons_succ]
  refine wpAnyH_take (i := 4) (v := ?v98) (ops_at rfl) (by kernel_rfl) (by kernel_rfl) (by kernel_rfl) (fun _ _ _ h => h) (Or.inl ⟨by rfl, ?hy98⟩) (by assumption) ?rest98
  case hy98 => intro w' hSw; (try dsimp only at hSw); go_simp; try with_reducible rfl
  try simp only [Act.put, List.setIfInBounds_toArray, List.set_cons_zero, List.set_cons_succ]
  refine wpAnyH_take (i := 5) (v := ?v99) (ops_at rfl) (by kernel_rfl) (by kernel_rfl) (by kernel_rfl) (fun _ _ _ h => h) (Or.inl ⟨by rfl, ?hy99⟩) (by assumption) ?rest99
  case hy99 => intro w' hSw; (try dsimp only at hSw); go_simp; try with_reducible rfl
  try simp only [Act.put, List.setIfInBounds_toArray, List.set_cons_zero, List.set_cons_succ]
  refine wpAnyH_take (i := 6) (v := ?v100) (ops_at rfl) (by kernel_rfl) (by kernel_rfl) (by kernel_rfl) (fun _ _ _ h => h) (Or.inl ⟨by rfl, ?hy100⟩) (by assumption) ?rest100
  case hy100 => intro w' hSw; (try dsimp only at hSw); go_simp; try with_reducible rfl
  try simp only [Act.put, List.setIfInBounds_toArray, List.set_cons_zero, List.set_cons_succ]
  refine wpAnyH_take (i := 7) (v := ?v101) (ops_at rfl) (by kernel_rfl) (by kernel_rfl) (by kernel_rfl) (fun _ _ _ h => h) (Or.inl ⟨by rfl, ?hy101⟩) (by assumption) ?rest101
  case hy101 => intro w' hSw; (try dsimp only at hSw); go_simp; try with_reducible rfl
  try simp only [Act.put, List.setIfInBounds_toArray, List.set_cons_zero, List.set_cons_succ]
  refine wpAnyH_take (i := 8) (v := ?v102) (ops_at rfl) (by kernel_rfl) (by kernel_rfl) (by kernel_rfl) (fun _ _ _ h => h) (Or.inl ⟨by rfl, ?hy102⟩) (by assumption) ?rest102
  case hy102 => intro w' hSw; (try dsimp only at hSw); go_simp; try with_reducible rfl
  try simp only [Act.put, List.setIfInBounds_toArray, List.set_cons_zero, List.set_cons_succ]
  refine wpAnyH_take (i := 9) (v := ?v103) (ops_at rfl) (by kernel_rfl) (by kernel_rfl) (by kernel_rfl) (fun _ _ _ h => h) (Or.inl ⟨by rfl, ?hy103⟩) (by assumption) ?rest103
  case hy103 => intro w' hSw; (try dsimp only at hSw); go_simp; try with_reducible rfl
  try simp only [Act.put, List.setIfInBounds_toArray, List.set_cons_zero, List.set_cons_succ]
  refine wpAnyH_take (i := 10) (v := ?v104) (ops_at rfl) (by kernel_rfl) (by kernel_rfl) (by kernel_rfl) (fun _ _ _ h => h) (Or.inl ⟨by rfl, ?hy104⟩) (by assumption) ?rest104
  case hy104 => intro w' hSw; (try dsimp only at hSw); go_simp; try with_reducible rfl
  try simp only [Act.put, List.setIfInBounds_toArray, List.set_cons_zero, List.set_cons_succ]
  refine wpAnyH_take (i := 11) (v := ?v105) (ops_at rfl) (by kernel_rfl) (by kernel_rfl) (by kernel_rfl) (fun _ _ _ h => h) (Or.inl ⟨by rfl, ?hy105⟩) (by assumption) ?rest105
  case hy105 => intro w' hSw; (try dsimp only at hSw); go_simp; try with_reducible rfl
  try simp only [Act.put, List.setIfInBounds_toArray, List.set_cons_zero, List.set_cons_succ]
  refine wpAnyH_take (i := 14) (v := ?v106) (ops_at rfl) (by kernel_rfl) (by kernel_rfl) (by kernel_rfl) (fun _ _ _ h => h) (Or.inl ⟨by rfl, ?hy106⟩) (by assumption) ?rest106
  case hy106 => intro w' hSw; (try dsimp only at hSw); go_simp; try with_reducible rfl
  try simp only [Act.put, List.setIfInBounds_toArray, List.set_cons_zero, List.set_cons_succ]
  refine wpAnyH_take (i := 17) (v := ?v107) (ops_at rfl) (by kernel_rfl) (by kernel_rfl) (by kernel_rfl) (fun _ _ _ h => h) (Or.inl ⟨by rfl, ?hy107⟩) (by assumption) ?rest107
  case hy107 => intro w' hSw; (try dsimp only at hSw); go_simp; try with_reducible rfl
  try simp only [Act.put, List.setIfInBounds_toArray, List.set_cons_zero, List.set_cons_succ]
  refine wpAnyH_take (i := 18) (v := ?v108) (ops_at rfl) (by kernel_rfl) (by kernel_rfl) (by kernel_rfl) (fun _ _ _ h => h) (Or.inl ⟨by rfl, ?hy108⟩) (by assumption) ?rest108
  case hy108 => intro w' hSw; (try dsimp only at hSw); go_simp; try with_reducible rfl
  try simp only [Act.put, List.setIfInBounds_toArray, List.set_cons_zero, List.set_cons_succ]
  refine wpAnyH_take (i := 19) (v := ?v109) (ops_at rfl) (by kernel_rfl) (by kernel_rfl) (by kernel_rfl) (fun _ _ _ h => h) (Or.inl ⟨by rfl, ?hy109⟩) (by assumption) ?rest109
  case hy109 => intro w' hSw; (try dsimp only at hSw); go_simp; try with_reducible rfl
  try simp only [Act.put, List.setIfInBounds_toArray, List.set_cons_zero, List.set_cons_succ]
  refine wpAnyH_take (i := 20) (v := ?v110) (ops_at rfl) (by kernel_rfl) (by kernel_rfl) (by kernel_rfl) (fun _ _ _ h => h) (Or.inl ⟨by rfl, ?hy110⟩) (by assumption) ?rest110
  case hy110 => intro w' hSw; (try dsimp only at hSw); go_simp; try with_reducible rfl
  try simp only [Act.put, List.setIfInBounds_toArray, List.set_cons_zero, List.set_cons_succ]
  refine wpAnyH_take (i := 21) (v := ?v111) (ops_at rfl) (by kernel_rfl) (by kernel_rfl) (by kernel_rfl) (fun _ _ _ h => h) (Or.inl ⟨by rfl, ?hy111⟩) (by assumption) ?rest111
  case hy111 => intro w' hSw; (try dsimp only at hSw); go_simp; try with_reducible rfl
  try simp only [Act.put, List.setIfInBounds_toArray, List.set_cons_zero, List.set_cons_succ]
  refine wpAnyH_take (i := 22) (v := ?v112) (ops_at rfl) (by kernel_rfl) (by kernel_rfl) (by kernel_rfl) (fun _ _ _ h => h) (Or.inl ⟨by rfl, ?hy112⟩) (by assumption) ?rest112
  case hy112 => intro w' hSw; (try dsimp only at hSw); go_simp; try with_reducible rfl
  try simp only [Act.put, List.setIfInBounds_toArray, List.set_cons_zero, List.set_cons_succ]
  refine wpAnyH_take (i := 23) (v := ?v113) (ops_at rfl) (by kernel_rfl) (by kernel_rfl) (by kernel_rfl) (fun _ _ _ h => h) (Or.inl ⟨by rfl, ?hy113⟩) (by assumption) ?rest113
  case hy113 => intro w' hSw; (try dsimp only at hSw); go_simp; try with_reducible rfl
  try simp only [Act.put, List.setIfInBounds_toArray, List.set_cons_zero, List.set_cons_succ]
  refine wpAnyH_take (i := 24) (v := ?v114) (ops_at rfl) (by kernel_rfl) (by kernel_rfl) (by kernel_rfl) (fun _ _ _ h => h) (Or.inl ⟨by rfl, ?hy114⟩) (by assumption) ?rest114
  case hy114 => intro w' hSw; (try dsimp only at hSw); go_simp; try with_reducible rfl
  try simp only [Act.put, List.setIfInBounds_toArray, List.set_cons_zero, List.set_cons_succ]
  refine wpAnyH_take (i := 25) (v := ?v115) (ops_at rfl) (by kernel_rfl) (by kernel_rfl) (by kernel_rfl) (fun _ _ _ h => h) (Or.inl ⟨by rfl, ?hy115⟩) (by assumption) ?rest115
  case hy115 => intro w' hSw; (try dsimp only at hSw); go_simp; try with_reducible rfl
  try simp only [Act.put, List.setIfInBounds_toArray, List.set_cons_zero, List.set_cons_succ]
  refine wpAnyH_ready (rs := [12]) (by kernel_rfl) (by simp) ?_
  refine AllReadyH.cons (ops_at rfl) (fun K hK => ?_) AllReadyH.nil
  go_simp
  refine (num_any n _).mono ?_
  rintro e w1 ⟨v1, rfl, ho1, hb1⟩
  obtain ⟨a1, c1, rfl⟩ := ho1.written HC.out
  have S1 := S.drew.grow hb1
  have hb2 : Below w.heap.size w w1 := (Below.refl _ _).drew.trans hb1
  clear ho1 hb1
  refine hK.out _ _ (by exact ⟨S1.cell 0 rfl 2 rfl, S1.cell 0 rfl 3 rfl⟩) (fun hHeld => ?_)
  clear hK K
  try simp only [Act.put, List.setIfInBounds_toArray, List.set_cons_zero, List.set_cons_succ]
  refine wpAnyH_take (i := 13) (v := ?v117) (ops_at rfl) (by kernel_rfl) (by kernel_rfl) (by kernel_rfl) (fun _ _ _ h => h) (Or.inl ⟨by rfl, ?hy117⟩) (by assumption) ?rest117
  case hy117 => intro w' hSw; (try dsimp only at hSw); go_simp; try with_reducible rfl
  try simp only [Act.put, List.setIfInBounds_toArray, List.set_cons_zero, List.set_cons_succ]
  refine wpAnyH_take (i := 15) (v := ?v118) (ops_at rfl) (by kernel_rfl) (by kernel_rfl) (by kernel_rfl) (fun _ _ _ h => h) (Or.inl ⟨by rfl, ?hy118⟩) (by assumption) ?rest118
  case hy118 => intro w' hSw; (try dsimp only at hSw); go_simp; try with_reducible rfl
  try simp only [Act.put, List.setIfInBounds_toArray, List.set_cons_zero, List.set_cons_succ]
  refine wpAnyH_take (i := 16) (v := ?v119) (ops_at rfl) (by kernel_rfl) (by kernel_rfl) (by kernel_rfl) (fun _ _ _ h => h) (Or.inl ⟨by rfl, ?hy119⟩) (by assumption) ?rest119
  case hy119 => intro w' hSw; (try dsimp only at hSw); go_simp; try with_reducible rfl
  try simp only [Act.put, List.setIfInBounds_toArray, List.set_cons_zero, List.set_cons_succ]
  refine wpAnyH_take (i := 26) (v := ?v120) (ops_at rfl) (by kernel_rfl) (by kernel_rfl) (by kernel_rfl) (fun _ _ _ h => h) (Or.inl ⟨by rfl, ?hy120⟩) (by assumption) ?rest120
  case hy120 => intro w' hSw; (try dsimp only at hSw); go_simp; try with_reducible rfl
  try simp only [Act.put, List.setIfInBounds_toArray, List.set_cons_zero, List.set_cons_succ]
  refine wpAnyH_take (i := 27) (v := ?v121) (ops_at rfl) (by kernel_rfl) (by kernel_rfl) (by kernel_rfl) (fun _ _ _ h => h) (Or.inl ⟨by rfl, ?hy121⟩) (by assumption) ?rest121
  case hy121 => intro w' hSw; (try dsimp only at hSw); go_simp; try with_reducible rfl
  try simp only [Act.put, List.setIfInBounds_toArray, List.set_cons_zero, List.set_cons_succ]
  refine wpAnyH_take (i := 28) (v := ?v122) (ops_at rfl) (by kernel_rfl) (by kernel_rfl) (by kernel_rfl) (fun _ _ _ h => h) (Or.inl ⟨by rfl, ?hy122⟩) (by assumption) ?rest122
  case hy122 => intro w' hSw; (try dsimp only at hSw); go_simp; try with_reducible rfl
  try simp only [Act.put, List.setIfInBounds_toArray, List.set_cons_zero, List.set_cons_succ]
  refine wpAnyH_done (by kernel_rfl) ?_ _
  go_wp2
  go_ret
  exact ⟨rfl, S1, hb2⟩
end

end Go.Proofs.Ytmfbbonppmhabaa

namespace Go.Proofs.Ytmfbbonppmhabaa
set_option linter.unusedVariables false
set_option linter.unusedSimpArgs false
open Go.RowKit

/-- What Put makes: an error's number, the disk, how much is used. -/
def logPut (d : DSt) (fr sz used : Nat) (p : List UInt8) : Int × DSt × Nat :=
  if p.length = 0 ∨ 4000 < p.length then (1, d, used)
  else if roomB sz used p.length = false then (3, d, used)
  else (0, d.write ((fr + used : Nat) : Int) (frameB p), used + (frameB p).length)

section
variable {w0 w : World} {tl : List Thing} {pd : Value} {d : DSt} {g fr sz used : Nat}
set_option maxRecDepth 10000 in
set_option maxHeartbeats 1600000 in
theorem logPut_any (S : St w0 w (cellsT g 99 (logC pd fr sz used) :: diskT pd d :: tl)) (a : Option Addr) (l : List UInt8) (n cap : Nat) (hn : l.length = n) (hm : n ≤ maxLen) (hcap : n ≤ cap) (hnil : a = none → cap = 0) (hA : Reads w0 tl a l)
    (hf : fr + sz ≤ d.lasts.length) (hu : used ≤ sz) (hw : d.waits.length ≤ 10000) :
    Calls Try.prog 46 #[.pointer (some ⟨g, 0, none⟩), .slice a n cap] w fun e w' => e = .returned (.int .i64 (logPut d fr sz used l).1) ∧ St w0 w' (cellsT g 99 (logC pd fr sz (logPut d fr sz used l).2.2) :: diskT pd (logPut d fr sz used l).2.1 :: tl) := by
  have hN := (S.disk 1 rfl).2.2.1
  have HN := hid hn
  have HA := hid hA
  have HNil := hid hnil
  unfold maxLen at hm
  clear hA hnil
  by_cases q1 : n = 0 ∨ 4000 < n
  · have e : logPut d fr sz used l = (1, d, used) := by unfold logPut; rw [hn, if_pos q1]
    rw [e]
    clear e hn
    rcases q1 with rfl | q1
    · go_enter Try.func46, Try.ntmps46
      go_wp2
      go_ret
      exact ⟨rfl, S⟩
    · have g1 : ((n : Int) == 0) = false := by simp; omega
      have g2 : decide ((4000 : Int) < (n : Int)) = true := decide_eq_true (by omega)
      go_enter Try.func46, Try.ntmps46
      go_wp2
      go_ret
      exact ⟨rfl, S⟩
  have g1 : ((n : Int) == 0) = false := by simp; omega
  have g2 : decide ((4000 : Int) < (n : Int)) = false := decide_eq_false (by omega)
  by_cases q2 : roomB sz used n = false
  · have e : logPut d fr sz used l = (3, d, used) := by unfold logPut; rw [hn, if_neg q1, if_pos q2]
    have Q2 := hid q2
    rw [e]
    clear e hn q2
    go_enter Try.func46, Try.ntmps46
    go_wp2_with fail
    refine (room_any S n (by omega) (by omega)).mono ?_
    rintro e w1 ⟨rfl, S1, -⟩
    rw [Q2.out]
    go_wp2
    go_ret
    exact ⟨rfl, S1⟩
  have Q2 : Hid (roomB sz used n = true) := by rw [Hid]; simpa using q2
  obtain ⟨N, hNN⟩ : ∃ N, (frameB l).length = N := ⟨_, rfl⟩
  have hNb : N ≤ 5000 := by
    rw [← hNN, frameB]
    split
    · simp
    · have := codeNum_len (l.length : Int)
      simp only [List.length_append, putB_length, List.length_singleton]; omega
  have e : logPut d fr sz used l = (0, d.write ((fr + used : Nat) : Int) (frameB l), used + N) := by unfold logPut; rw [hn, if_neg q1, if_neg q2, hNN]
  rw [e]
  have HL := hid hNN
  have e1 : IntKind.i64.wrap ((fr : Int) + (used : Int)) = (fr : Int) + (used : Int) := by rw [IntKind.wrap_i64]; omega
  clear e hn q2 hNN
  go_enter Try.func46, Try.ntmps46
  go_wp2_with fail
  refine (room_any S n (by omega) (by omega)).mono ?_
  rintro e w1 ⟨rfl, S1, -⟩
  rw [Q2.out]
  go_wp2_with fail
  refine (frPut_any a l n cap w1 HN.out (by unfold maxLen; omega) hcap HNil.out (by exact HA.out w1 [_, _] S1)).mono ?_
  rintro e w2 ⟨a2, c2, rfl, ho2, hb2⟩
  rw [HL.out] at ho2
  rw [HL.out]
  have S2 := (S1.bytes ho2 hb2).rot
  clear ho2 hb2
  go_wp2_with fail
  refine wp_region_held_drew (S := (fun w' => w'.cell? ⟨g, 0, none⟩ = some pd ∧ w'.cell? ⟨g, 1, none⟩ = some (.int .i64 (fr : Int)) ∧ w'.cell? ⟨g, 3, none⟩ = some (.int .i64 (used : Int)))) (by kernel_rfl) (by exact ⟨S2.drew.cell 1 rfl 0 rfl, S2.drew.cell 1 rfl 1 rfl, S2.drew.cell 1 rfl 3 rfl⟩) (fun hHeld => ?_)
  change wpAnyH _ _ _ _ _ 15 (Array.replicate 15 false) _ _
  refine wpAnyH_take (i := 0) (v := ?v123) (ops_at rfl) (by kernel_rfl) (by kernel_rfl) (by kernel_rfl) (fun _ _ _ h => h) (Or.inl ⟨by rfl, ?hy123⟩) (by assumption) ?rest123
  case hy123 => intro w' hSw; (try dsimp only at hSw); go_simp; try with_reducible rfl
  try simp only [Act.put, List.setIfInBounds_toArray, List.set_cons_zero, List.set_cons_succ]
  refine wpAnyH_take (i := 1) (v := ?v124) (ops_at rfl) (by kernel_rfl) (by kernel_rfl) (by kernel_rfl) (fun _ _ _ h => h) (Or.inl ⟨by rfl, ?hy124⟩) (by assumption) ?rest124
  case hy124 => intro w' hSw; (try dsimp only at hSw); go_simp; try with_reducible rfl
  try simp only [Act.put, List.setIfInBounds_toArray, List.set_cons_zero, List.set_cons_succ]
  refine wpAnyH_take (i := 2) (v := ?v125) (ops_at rfl) (by kernel_rfl) (by kernel_rfl) (by kernel_rfl) (fun _ _ _ h => h) (Or.inl ⟨by rfl, ?hy125⟩) (by assumption) ?rest125
  case hy125 => intro w' hSw; (try dsimp only at hSw); go_simp; try with_reducible rfl
  try simp only [Act.put, List.setIfInBounds_toArray, List.set_cons_zero, List.set_cons_succ]
  refine wpAnyH_take (i := 3) (v := ?v126) (ops_at rfl) (by kernel_rfl) (by kernel_rfl) (by kernel_rfl) (fun _ _ _ h => h) (Or.inl ⟨by rfl, ?hy126⟩) (by assumption) ?rest126
  case hy126 => intro w' hSw; (try dsimp only at hSw); go_simp; try with_reducible rfl
  try simp only [Act.put, List.setIfInBounds_toArray, List.set_cons_zero, List.set_cons_succ]
  refine wpAnyH_take (i := 4) (v := ?v127) (ops_at rfl) (by kernel_rfl) (by kernel_rfl) (by kernel_rfl) (fun _ _ _ h => h) (Or.inl ⟨by rfl, ?hy127⟩) (by assumption) ?rest127
  case hy127 => intro w' hSw; (try dsimp only at hSw); go_simp; try with_reducible rfl
  try simp only [Act.put, List.setIfInBounds_toArray, List.set_cons_zero, List.set_cons_succ]
  refine wpAnyH_take (i := 5) (v := ?v128) (ops_at rfl) (by kernel_rfl) (by kernel_rfl) (by kernel_rfl) (fun _ _ _ h => h) (Or.inl ⟨by rfl, ?hy128⟩) (by assumption) ?rest128
  case hy128 => intro w' hSw; (try dsimp only at hSw); go_simp; try with_reducible rfl
  try simp only [Act.put, List.setIfInBounds_toArray, List.set_cons_zero, List.set_cons_succ]
  refine wpAnyH_take (i := 6) (v := ?v129) (ops_at rfl) (by kernel_rfl) (by kernel_rfl) (by kernel_rfl) (fun _ _ _ h => h) (Or.inl ⟨by rfl, ?hy129⟩) (by assumption) ?rest129
  case hy129 => intro w' hSw; (try dsimp only at hSw); go_simp; try with_reducible rfl
  try simp only [Act.put, List.setIfInBounds_toArray, List.set_cons_zero, List.set_cons_succ]
  refine wpAnyH_take (i := 7) (v := ?v130) (ops_at rfl) (by kernel_rfl) (by kernel_rfl) (by kernel_rfl) (fun _ _ _ h => h) (Or.inl ⟨by rfl, ?hy130⟩) (by assumption) ?rest130
  case hy130 => intro w' hSw; (try dsimp only at hSw); go_simp; try with_reducible rfl
  try simp only [Act.put, List.setIfInBounds_toArray, List.set_cons_zero, List.set_cons_succ]
  refine wpAnyH_take (i := 8) (v := ?v131) (ops_at rfl) (by kernel_rfl) (by kernel_rfl) (by kernel_rfl) (fun _ _ _ h => h) (Or.inl ⟨by rfl, ?hy131⟩) (by assumption) ?rest131
  case hy131 => intro w' hSw; (try dsimp only at hSw); go_simp; try with_reducible rfl
  try simp only [Act.put, List.setIfInBounds_toArray, List.set_cons_zero, List.set_cons_succ]
  refine wpAnyH_take (i := 9) (v := ?v132) (ops_at rfl) (by kernel_rfl) (by kernel_rfl) (by kernel_rfl) (fun _ _ _ h => h) (Or.inl ⟨by rfl, ?hy132⟩) (by assumption) ?rest132
  case hy132 => intro w' hSw; (try dsimp only at hSw); go_simp; try with_reducible rfl
  try simp only [Act.put, List.setIfInBounds_toArray, List.set_cons_zero, List.set_cons_succ]
  refine wpAnyH_take (i := 10) (v := ?v133) (ops_at rfl) (by kernel_rfl) (by kernel_rfl) (by kernel_rfl) (fun _ _ _ h => h) (Or.inl ⟨by rfl, ?hy133⟩) (by assumption) ?rest133
  case hy133 => intro w' hSw; (try dsimp only at hSw); go_simp; try with_reducible rfl
  try simp only [Act.put, List.setIfInBounds_toArray, List.set_cons_zero, List.set_cons_succ]
  refine wpAnyH_take (i := 11) (v := ?v134) (ops_at rfl) (by kernel_rfl) (by kernel_rfl) (by kernel_rfl) (fun _ _ _ h => h) (Or.inl ⟨by rfl, ?hy134⟩) (by assumption) ?rest134
  case hy134 => intro w' hSw; (try dsimp only at hSw); go_simp; try with_reducible rfl
  try simp only [Act.put, List.setIfInBounds_toArray, List.set_cons_zero, List.set_cons_succ]
  refine wpAnyH_take (i := 12) (v := ?v135) (ops_at rfl) (by kernel_rfl) (by kernel_rfl) (by kernel_rfl) (fun _ _ _ h => h) (Or.inl ⟨by rfl, ?hy135⟩) (by assumption) ?rest135
  case hy135 => intro w' hSw; (try dsimp only at hSw); go_simp; try with_reducible rfl
  try simp only [Act.put, List.setIfInBounds_toArray, List.set_cons_zero, List.set_cons_succ]
  refine wpAnyH_take (i := 13) (v := ?v136) (ops_at rfl) (by kernel_rfl) (by kernel_rfl) (by kernel_rfl) (fun _ _ _ h => h) (Or.inl ⟨by rfl, ?hy136⟩) (by assumption) ?rest136
  case hy136 => intro w' hSw; (try dsimp only at hSw); go_simp; try with_reducible rfl
  try simp only [Act.put, List.setIfInBounds_toArray, List.set_cons_zero, List.set_cons_succ]
  refine wpAnyH_ready (rs := [14]) (by kernel_rfl) (by simp) ?_
  refine AllReadyH.cons (ops_at rfl) (fun K hK => ?_) AllReadyH.nil
  go_simp
  refine (hwrite S2.drew 2 rfl _ a2 (frameB l) N c2 _ rfl HL.out (by omega) (by omega) (by exact (S2.drew.slA 0 rfl).2.2.2.1) (by exact S2.drew.at 0 rfl)).mono ?_
  rintro e w3 ⟨rfl, S3⟩
  refine hK.out _ _ (by exact ⟨S3.cell 1 rfl 0 rfl, S3.cell 1 rfl 1 rfl, S3.cell 1 rfl 3 rfl⟩) (fun hHeld => ?_)
  clear hK K
  try simp only [Act.put, List.setIfInBounds_toArray, List.set_cons_zero, List.set_cons_succ]
  refine wpAnyH_done (by kernel_rfl) ?_ _
  have c3 : w3.cell? ⟨g, 3, none⟩ = some (.int .i64 (used : Int)) := S3.cell 1 rfl 3 rfl
  have f3 := S3.frozen 1 rfl 3
  go_wp2
  go_ret
  refine ⟨rfl, ?_⟩
  have S4 := (S3.setCell 1 rfl 3 (.int .i64 ((used : Int) + (N : Int)))).tail
  have e4 : ((used + N : Nat) : Int) = (used : Int) + (N : Int) := by omega
  have e5 : ((fr + used : Nat) : Int) = (fr : Int) + (used : Int) := by omega
  unfold logC
  rw [e4, e5]
  exact S4

set_option maxRecDepth 10000 in
theorem logClear_any (S : St w0 w (cellsT g 99 (logC pd fr sz used) :: diskT pd d :: tl)) (hf : fr + sz ≤ d.lasts.length) (hw : d.waits.length ≤ 1000) (hs : d.syncs < 100000000) :
    Calls Try.prog 36 #[.pointer (some ⟨g, 0, none⟩)] w fun e w' => e = .returned (.tuple #[]) ∧ St w0 w' (cellsT g 99 (logC pd fr sz 0) :: diskT pd (d.nought fr sz 0) :: tl) := by
  go_enter Try.func36, Try.ntmps36
  go_wp2_with fail
  refine (noughts_any S 0 (Nat.zero_le _) hf hw hs).mono ?_
  rintro e w1 ⟨rfl, S1⟩
  have c3 : w1.cell? ⟨g, 3, none⟩ = some (.int .i64 (used : Int)) := S1.cell 0 rfl 3 rfl
  have f3 := S1.frozen 0 rfl 3
  go_wp2
  exact bodyPost_end (results_none rfl _ _ _) rfl ⟨rfl, S1.setCell 0 rfl 3 (.int .i64 0)⟩

/-- What Append makes. -/
def logApp (d : DSt) (fr sz used : Nat) (p : List UInt8) : Int × DSt × Nat :=
  ((logPut d fr sz used p).1, if (logPut d fr sz used p).1 = 0 then (logPut d fr sz used p).2.1.sync else (logPut d fr sz used p).2.1, (logPut d fr sz used p).2.2)
theorem logPut_lens (d : DSt) (fr sz used : Nat) (p : List UInt8) : (logPut d fr sz used p).2.1.waits.length ≤ d.waits.length + 1 ∧ (logPut d fr sz used p).2.1.syncs = d.syncs ∧ (logPut d fr sz used p).2.1.lasts = d.lasts := by
  unfold logPut
  split
  · exact ⟨by show d.waits.length ≤ _; omega, rfl, rfl⟩
  split
  · exact ⟨by show d.waits.length ≤ _; omega, rfl, rfl⟩
  · exact ⟨DSt.write_waits _ _ _, DSt.write_syncs _ _ _, DSt.write_lasts _ _ _⟩
end

end Go.Proofs.Ytmfbbonppmhabaa

namespace Go.Proofs.Ytmfbbonppmhabaa
set_option linter.unusedVariables false
set_option linter.unusedSimpArgs false
open Go.RowKit

/-- What a call has made, told over our base. -/
theorem St.rowsIn {α : Type} {e : Elt α} {refs : α → List (Option Addr × List UInt8)} {w0 w w' : World} {tl : List Thing} {v : Value} {l : List α} (S : St w0 w tl) (T : St w w' [rowsT e refs v l]) : St w0 w' (rowsT e refs v l :: tl) := by
  obtain ⟨F, h1, h2, h3, h4⟩ := T.head 0 rfl
  exact (S.push T.fin (y := rowsT e refs v l) (F := F) ⟨h1.base S.size, h2, h3, fun b hb => ⟨Nat.le_trans S.size (h4 b hb).1, (h4 b hb).2⟩⟩ (fun b hb => (h4 b hb).1)).rot

section
variable {w0 w : World} {tl : List Thing} {pd : Value} {d : DSt}
theorem logOpen_no (S : St w0 w (diskT pd d :: tl)) (fr sz : Int) (hsz0 : -9223372036854775808 ≤ sz) (hsz1 : sz ≤ 9223372036854775807) (h : fr < 0 ∨ sz < 1 ∨ (d.lasts.length : Int) < sz ∨ (d.lasts.length : Int) - sz < fr) :
    Calls Try.prog 31 #[pd, .int .i64 fr, .int .i64 sz] w fun e w' => e = .returned (.tuple #[.pointer none, .slice none 0 0, .int .i64 1]) ∧ w = w' := by
  have hN := (S.disk 0 rfl).2.2.1
  obtain ⟨N, hNN⟩ : ∃ N, d.lasts.length = N := ⟨_, rfl⟩
  rw [hNN] at hN h
  have HN := hid (show (d.lasts.length : Int) = (N : Int) by rw [hNN])
  clear hNN
  by_cases q0 : fr < 0
  · go_enter Try.func31, Try.ntmps31
    go_wp2
    go_ret3
    exact ⟨rfl, rfl⟩
  have g0 : decide (fr < 0) = false := decide_eq_false q0
  by_cases q1 : sz < 1
  · have g1 : decide (sz < 1) = true := decide_eq_true q1
    go_enter Try.func31, Try.ntmps31
    go_wp2
    go_ret3
    exact ⟨rfl, rfl⟩
  have g1 : decide (sz < 1) = false := decide_eq_false q1
  by_cases q2 : (N : Int) < sz
  · have g2 : decide ((N : Int) < sz) = true := decide_eq_true q2
    go_enter Try.func31, Try.ntmps31
    go_wp2_with (refine (hsize S 0 rfl (N : Int) HN.out).mono ?_; rintro e w1 ⟨rfl, rfl⟩)
    go_ret3
    exact ⟨rfl, rfl⟩
  have g2 : decide ((N : Int) < sz) = false := decide_eq_false q2
  have g3 : decide ((N : Int) - sz < fr) = true := decide_eq_true (by omega)
  go_enter Try.func31, Try.ntmps31
  go_wp2_with (refine (hsize S 0 rfl (N : Int) HN.out).mono ?_; rintro e w1 ⟨rfl, rfl⟩)
  go_ret3
  exact ⟨rfl, rfl⟩

/-- What opening tells and leaves. -/
def OpenPost (w0 : World) (pd : Value) (d : DSt) (fr sz : Nat) (tl : List Thing) (e : Ending) (w' : World) : Prop :=
  ∃ g a c xs, e = .returned (.tuple #[.pointer (some ⟨g, 0, none⟩), .slice a (fAll (piece d.bytes fr sz) 0).1.length c, .int .i64 0]) ∧ xs.map BS.l = (fAll (piece d.bytes fr sz) 0).1 ∧ (∀ x ∈ xs, BS.Hd x) ∧
    St w0 w' (cellsT g 99 (logC pd fr sz ((fAll (piece d.bytes fr sz) 0).1.flatMap frameB).length) :: diskT pd (d.nought fr sz ((fAll (piece d.bytes fr sz) 0).1.flatMap frameB).length) :: rowsT eS bsRefs (.slice a (fAll (piece d.bytes fr sz) 0).1.length c) xs :: tl)

set_option maxRecDepth 10000 in
set_option maxHeartbeats 1600000 in
theorem logOpen_yes (S : St w0 w (diskT pd d :: tl)) (fr sz : Nat) (h1 : 1 ≤ sz) (h2 : fr + sz ≤ d.lasts.length) (hw : d.waits.length ≤ 1000) (hs : d.syncs < 100000000) :
    Calls Try.prog 31 #[pd, .int .i64 fr, .int .i64 sz] w fun e w' => OpenPost w0 pd d fr sz tl e w' := by
  have hptr : ∃ gd, pd = .pointer (some ⟨gd, 0, none⟩) := by
    obtain ⟨F, gd, gl, vw, ws, e, _⟩ := S.head 0 rfl
    exact ⟨gd, e⟩
  obtain ⟨gd, rfl⟩ := hptr
  have hd := S.disk 0 rfl
  have hN := hd.2.2.1
  obtain ⟨N, hNN⟩ : ∃ N, d.lasts.length = N := ⟨_, rfl⟩
  rw [hNN] at hN hd
  have HN := hid (show (d.lasts.length : Int) = (N : Int) by rw [hNN])
  have HB := hid hd.2.2.2
  have HF := hid h2
  rw [hNN] at h2
  have hpl := piece_len (l := d.bytes) (fr := fr) (sz := sz) (by rw [hd.2.2.2]; exact h2)
  obtain ⟨r1, r2, r3, r4⟩ := fAll_is (piece d.bytes fr sz)
  unfold OpenPost
  obtain ⟨L, hL⟩ : ∃ L, piece d.bytes fr sz = L := ⟨_, rfl⟩
  rw [hL] at hpl r1 r2 r3 r4 ⊢
  obtain ⟨R, hR⟩ : ∃ R, fAll L 0 = R := ⟨_, rfl⟩
  rw [hR] at r1 r2 r3 r4 ⊢
  obtain ⟨u, hu⟩ : ∃ u, (R.1.flatMap frameB).length = u := ⟨_, rfl⟩
  rw [hu] at r2 r3 ⊢
  rw [hpl] at r3
  have HP := hid hpl
  have HL := hid hL
  have HR := hid hR
  have HU := hid r2
  have g0 : decide ((fr : Int) < 0) = false := decide_eq_false (by omega)
  have g1 : decide ((sz : Int) < 1) = false := decide_eq_false (by omega)
  have g2 : decide ((N : Int) < (sz : Int)) = false := decide_eq_false (by omega)
  have g3 : decide ((N : Int) - (sz : Int) < (fr : Int)) = false := decide_eq_false (by omega)
  have g2' : decide (N < sz) = false := decide_eq_false (by omega)
  have S1 := (S.newCells 99 #[.pointer (some ⟨gd, 0, none⟩), .int .i64 (fr : Int), .int .i64 (sz : Int), .int .i64 0]).rot
  have hN1 := hd.2.1
  clear hd hNN hL hR hu r1 r2 r4 hpl
  go_enter Try.func31, Try.ntmps31
  go_wp2_with (go_at_call 29; refine (hsize S 0 rfl (N : Int) HN.out).mono ?_; rintro e w1 ⟨rfl, rfl⟩)
  obtain ⟨g, hg⟩ : ∃ g, w.heap.size = g := ⟨_, rfl⟩
  rw [hg] at S1 ⊢
  clear hg
  generalize w.alloc _ = w1 at S1 ⊢
  refine (hbytes (by exact S1) 1 rfl (by omega) N HB.out).mono ?_
  rintro e w2 ⟨ab, cb, rfl, S2', -⟩
  have S2 := S2'.rot
  have hcb := (S2.slA 0 rfl).2.1
  have hA2 := hid ((S2.at 0 rfl).cut fr sz cb (by omega))
  have ic := cut_lhI ab N cb fr (fr + sz) (fr : Int) ((fr : Int) + (sz : Int)) rfl (by omega) (by omega) (by omega)
  clear S2'
  go_wp2_with fail
  refine (frAll_any (cutH ab fr cb) L sz (cb - fr) 0 w2 HP.out (by omega) (by omega) (by rw [← HL.out]; exact hA2.out) (by omega) (by omega)).mono ?_
  rintro e w3 ⟨a3, c3, xs, rfl, hxs, hhd, T3⟩
  rw [HR.out] at hxs T3 ⊢
  rw [HU.out]
  have S3 := S2.rowsIn T3
  have HX := hid (And.intro hxs hhd)
  clear hxs hhd T3 ic
  have c3' : w3.cell? ⟨g, 3, none⟩ = some (.int .i64 0) := S3.cell 2 rfl 3 rfl
  have f3 := S3.frozen 2 rfl 3
  have S4 := S3.setCell 2 rfl 3 (.int .i64 (u : Int))
  have S5 : St w0 (w3.setCell ⟨g, 3, none⟩ (.int .i64 (u : Int))) (cellsT g 99 (logC (.pointer (some ⟨gd, 0, none⟩)) fr sz u) :: diskT (.pointer (some ⟨gd, 0, none⟩)) d :: rowsT eS bsRefs (.slice a3 R.1.length c3) xs :: bytesT (.slice ab N cb) d.bytes :: tl) := (S4.front 3 rfl).front 3 rfl
  clear S4
  go_wp2_with fail
  refine (noughts_any (by exact S5) u r3 HF.out hw hs).mono ?_
  rintro e w4 ⟨rfl, S6⟩
  go_wp2
  go_ret3
  exact ⟨g, a3, c3, xs, rfl, HX.out.1, HX.out.2, (S6.front 3 rfl).tail⟩
end

end Go.Proofs.Ytmfbbonppmhabaa

namespace Go.Proofs.Ytmfbbonppmhabaa
set_option linter.unusedVariables false
set_option linter.unusedSimpArgs false
open Go.RowKit

theorem frame_room {p : List UInt8} (h1 : 1 ≤ p.length) (h2 : p.length ≤ 4000) (sz used : Nat) : roomB sz used p.length = decide ((frameB p).length + used ≤ sz) := by
  unfold roomB
  rw [frame_len h1 h2, decide_eq_true (by omega : (1 : Int) ≤ p.length), decide_eq_true (by omega : (p.length : Int) ≤ 4000), Bool.true_and, Bool.true_and]
  congr 1
  rw [eq_iff_iff]
  omega
/-- There is a frame's room, and it is put. -/
theorem logPut_ok {d : DSt} {fr sz used : Nat} {p : List UInt8} (h1 : 1 ≤ p.length) (h2 : p.length ≤ 4000) (h : (frameB p).length + used ≤ sz) : logPut d fr sz used p = (0, d.write ((fr + used : Nat) : Int) (frameB p), used + (frameB p).length) := by
  unfold logPut
  rw [if_neg (by omega), if_neg (by rw [frame_room h1 h2, decide_eq_true h]; simp)]
theorem logPut_full {d : DSt} {fr sz used : Nat} {p : List UInt8} (h1 : 1 ≤ p.length) (h2 : p.length ≤ 4000) (h : ¬ (frameB p).length + used ≤ sz) : logPut d fr sz used p = (3, d, used) := by
  unfold logPut
  rw [if_neg (by omega), if_pos (by rw [frame_room h1 h2, decide_eq_false h])]
theorem logPut_bad {d : DSt} {fr sz used : Nat} {p : List UInt8} (h : p.length = 0 ∨ 4000 < p.length) : logPut d fr sz used p = (1, d, used) := by
  unfold logPut; rw [if_pos h]
theorem write_in {d : DSt} {k : Nat} {b : List UInt8} (h : k + b.length ≤ d.lasts.length) : d.write (k : Int) b = { d with waits := d.waits ++ [(k, b)] } := by
  rw [DSt.write_ok (by rw [DSt.can_code, DSt.code, if_neg (by omega), if_neg (by omega)])]; rfl
/-- A log on a disk: its records, and noughts behind them. -/
structure LogInv (d : DSt) (fr sz used : Nat) (ps : List (List UInt8)) : Prop where
  fit : ∀ x ∈ d.waits, x.1 + x.2.length ≤ d.lasts.length
  room : fr + sz ≤ d.lasts.length
  len_ : (ps.flatMap frameB).length = used
  le : used ≤ sz
  ok : ∀ p ∈ ps, 1 ≤ p.length ∧ p.length ≤ 4000
  is : piece d.bytes fr sz = ps.flatMap frameB ++ List.replicate (sz - used) 0
theorem LogInv.bytesLen {d : DSt} {fr sz used : Nat} {ps : List (List UInt8)} (h : LogInv d fr sz used ps) : d.bytes.length = d.lasts.length := dAll_len _ _ h.fit
theorem LogInv.all {d : DSt} {fr sz used : Nat} {ps : List (List UInt8)} (h : LogInv d fr sz used ps) : fAll (piece d.bytes fr sz) 0 = (ps, (used : Int)) := by
  rw [h.is, fAll_frames h.ok (by rw [fGet_zeros]; simp), h.len_]
theorem splice_zeros {X f : List UInt8} {z : Nat} (h : f.length ≤ z) : splice (X ++ List.replicate z 0) X.length f = (X ++ f) ++ List.replicate (z - f.length) 0 := by
  obtain ⟨y, rfl⟩ := Nat.exists_eq_add_of_le h
  rw [show List.replicate (f.length + y) (0 : UInt8) = List.replicate f.length 0 ++ List.replicate y 0 from (List.replicate_append_replicate ..).symm, splice_parts (by simp), Nat.add_sub_cancel_left]
  simp
theorem fit_write {d : DSt} {k : Nat} {b : List UInt8} (h : ∀ x ∈ d.waits, x.1 + x.2.length ≤ d.lasts.length) (hb : k + b.length ≤ d.lasts.length) : ∀ x ∈ (d.write (k : Int) b).waits, x.1 + x.2.length ≤ (d.write (k : Int) b).lasts.length := by
  rw [write_in hb]
  intro x hx
  rcases List.mem_append.1 hx with hx | hx
  · exact h x hx
  · simp at hx; subst hx; exact hb
theorem LogInv.put {d : DSt} {fr sz used : Nat} {ps : List (List UInt8)} (h : LogInv d fr sz used ps) {p : List UInt8} (h1 : 1 ≤ p.length) (h2 : p.length ≤ 4000) (hr : (frameB p).length + used ≤ sz) : LogInv (d.write ((fr + used : Nat) : Int) (frameB p)) fr sz (used + (frameB p).length) (ps ++ [p]) := by
  have hb : fr + used + (frameB p).length ≤ d.lasts.length := by have := h.room; omega
  refine ⟨fit_write h.fit hb, by rw [DSt.write_lasts]; exact h.room, by rw [frames_snoc, List.length_append, h.len_], by omega, ?_, ?_⟩
  · intro q hq
    rcases List.mem_append.1 hq with hq | hq
    · exact h.ok q hq
    · simp at hq; subst hq; exact ⟨h1, h2⟩
  · rw [DSt.write_bytes, if_pos (by rw [DSt.can_code, DSt.code, if_neg (by omega), if_neg (by omega)]), Int.toNat_natCast, piece_splice (by rw [h.bytesLen]; exact h.room) (by omega), h.is]
    have := splice_zeros (X := ps.flatMap frameB) (f := frameB p) (z := sz - used) (by omega)
    rw [h.len_] at this
    rw [this, frames_snoc]
    congr 2
    omega
theorem LogInv.sync {d : DSt} {fr sz used : Nat} {ps : List (List UInt8)} (h : LogInv d fr sz used ps) : LogInv d.sync fr sz used ps ∧ d.sync.lasts.length = d.lasts.length := by
  have hl : d.sync.lasts.length = d.lasts.length := dDone_len _ _ _ h.fit
  exact ⟨⟨fun x hx => by simp [DSt.sync, DSt.crash] at hx, by rw [hl]; exact h.room, h.len_, h.le, h.ok, by rw [DSt.sync_bytes]; exact h.is⟩, hl⟩
/-- What opening makes of whatever disk. -/
theorem nought_len {d : DSt} {fr sz u : Nat} (hfit : ∀ x ∈ d.waits, x.1 + x.2.length ≤ d.lasts.length) (hr : fr + sz ≤ d.lasts.length) (hu : u ≤ sz) : (d.nought fr sz u).lasts.length = d.lasts.length ∧ (d.nought fr sz u).waits = [] ∧ (d.nought fr sz u).syncs = d.syncs + 1 ∧ piece (d.nought fr sz u).bytes fr sz = (piece d.bytes fr sz).take u ++ List.replicate (sz - u) 0 := by
  have hb : (fr + u) + (List.replicate (sz - u) (0 : UInt8)).length ≤ d.lasts.length := by rw [List.length_replicate]; omega
  have hl : (d.nought fr sz u).lasts.length = d.lasts.length := by
    have := dDone_len (d.write ((fr + u : Nat) : Int) (List.replicate (sz - u) 0)).waits (d.write ((fr + u : Nat) : Int) (List.replicate (sz - u) 0)).lasts (dWaits (d.write ((fr + u : Nat) : Int) (List.replicate (sz - u) 0)).waits) (fit_write hfit hb)
    rw [DSt.write_lasts] at this
    unfold DSt.nought
    rw [← this, ← DSt.write_lasts d ((fr + u : Nat) : Int) (List.replicate (sz - u) 0)]; rfl
  have hbl : d.bytes.length = d.lasts.length := dAll_len _ _ hfit
  refine ⟨hl, rfl, by show (d.write _ _).syncs + 1 = _; rw [DSt.write_syncs], ?_⟩
  show piece (DSt.sync _).bytes fr sz = _
  rw [DSt.sync_bytes, DSt.write_bytes, if_pos (by rw [DSt.can_code, DSt.code, if_neg (by omega), if_neg (by rw [List.length_replicate] at *; omega)]), Int.toNat_natCast, piece_splice (by rw [hbl]; exact hr) (by rw [List.length_replicate]; omega)]
  exact splice_end (by rw [List.length_replicate, piece_len (by rw [hbl]; exact hr)]; omega)
theorem LogInv.open_ {d : DSt} {fr sz : Nat} (hfit : ∀ x ∈ d.waits, x.1 + x.2.length ≤ d.lasts.length) (hr : fr + sz ≤ d.lasts.length) :
    LogInv (d.nought fr sz ((fAll (piece d.bytes fr sz) 0).1.flatMap frameB).length) fr sz ((fAll (piece d.bytes fr sz) 0).1.flatMap frameB).length (fAll (piece d.bytes fr sz) 0).1 := by
  obtain ⟨r1, r2, r3, r4⟩ := fAll_is (piece d.bytes fr sz)
  have hbl : d.bytes.length = d.lasts.length := dAll_len _ _ hfit
  rw [piece_len (by rw [hbl]; exact hr)] at r3
  obtain ⟨n1, n2, n3, n4⟩ := nought_len hfit hr r3
  exact ⟨fun x hx => by rw [n2] at hx; simp at hx, by rw [n1]; exact hr, rfl, r3, r1, by rw [n4, r4]⟩
theorem frame_short {p : List UInt8} (h1 : 1 ≤ p.length) (h2 : p.length < 128) : (frameB p).length = p.length + 6 := by
  rw [frame_len h1 (by omega), codeNum_yes (by omega), num_last (f := 7) h2]
  simp only [List.length_singleton]; omega
theorem sync_waits (d : DSt) : d.sync.waits = [] ∧ d.sync.syncs = d.syncs + 1 := ⟨rfl, rfl⟩
/-- What Append makes of a log that has no pending writes. -/
theorem LogInv.app {d : DSt} {fr sz used : Nat} {ps : List (List UInt8)} (h : LogInv d fr sz used ps) (hw : d.waits = []) (p : List UInt8) (hp : p.length ≤ 4000) :
    (roomB sz used p.length = true ∧ 1 ≤ p.length ∧ (logApp d fr sz used p).1 = 0 ∧ (logApp d fr sz used p).2.2 = used + (frameB p).length ∧ LogInv (logApp d fr sz used p).2.1 fr sz (used + (frameB p).length) (ps ++ [p]) ∧ (logApp d fr sz used p).2.1.waits = [] ∧ (logApp d fr sz used p).2.1.syncs = d.syncs + 1 ∧ (logApp d fr sz used p).2.1.lasts.length = d.lasts.length) ∨
    (roomB sz used p.length = false ∧ ((logApp d fr sz used p).1 = 1 ∨ (logApp d fr sz used p).1 = 3) ∧ (logApp d fr sz used p).2.2 = used ∧ (logApp d fr sz used p).2.1 = d) := by
  by_cases h0 : p.length = 0
  · right
    have e := logPut_bad (d := d) (fr := fr) (sz := sz) (used := used) (p := p) (.inl h0)
    unfold logApp
    rw [e]
    exact ⟨by unfold roomB; rw [h0]; simp, .inl rfl, rfl, rfl⟩
  by_cases hr : (frameB p).length + used ≤ sz
  · left
    have e := logPut_ok (d := d) (fr := fr) (sz := sz) (used := used) (p := p) (by omega) hp hr
    have hI := h.put (p := p) (by omega) hp hr
    unfold logApp
    rw [e]
    refine ⟨by rw [frame_room (by omega) hp]; exact decide_eq_true hr, by omega, rfl, rfl, hI.sync.1, rfl, ?_, ?_⟩
    · show (d.write _ _).syncs + 1 = _; rw [DSt.write_syncs]
    · show (DSt.sync _).lasts.length = _; rw [hI.sync.2, DSt.write_lasts]
  · right
    have e := logPut_full (d := d) (fr := fr) (sz := sz) (used := used) (p := p) (by omega) hp hr
    unfold logApp
    rw [e]
    exact ⟨by rw [frame_room (by omega) hp]; exact decide_eq_false hr, .inr rfl, rfl, rfl⟩

end Go.Proofs.Ytmfbbonppmhabaa

namespace Go.Proofs.Ytmfbbonppmhabaa
set_option linter.unusedVariables false
set_option linter.unusedSimpArgs false
open Go.RowKit

theorem St.drop {w0 w : World} {l : List Thing} (S : St w0 w l) (n : Nat) : St w0 w (l.drop n) :=
  S.pick (fun i => n + i) (fun i hi => by rw [List.length_drop] at hi; exact ⟨by omega, by rw [List.getElem?_drop]⟩) (fun i j _ _ h => by simpa using h)
/-- A new disk, and a log that is opened on it. -/
theorem logNew {N fr sz : Nat} (h : fr + sz ≤ N) (hN : N ≤ 65536) : ∃ d ps u, (DSt.new N).nought fr sz ((fAll (piece (DSt.new N).bytes fr sz) 0).1.flatMap frameB).length = d ∧ (fAll (piece (DSt.new N).bytes fr sz) 0).1 = ps ∧ ((fAll (piece (DSt.new N).bytes fr sz) 0).1.flatMap frameB).length = u ∧ LogInv d fr sz u ps ∧ d.waits = [] ∧ d.syncs = 1 ∧ d.lasts.length = N ∧ ps = [] ∧ u = 0 := by
  have hl : (DSt.new N).lasts.length = N := by simp [DSt.new]
  have hI := LogInv.open_ (d := DSt.new N) (fr := fr) (sz := sz) (by intro x hx; simp [DSt.new] at hx) (by rw [hl]; exact h)
  obtain ⟨n1, n2, n3, n4⟩ := nought_len (d := DSt.new N) (fr := fr) (sz := sz) (u := ((fAll (piece (DSt.new N).bytes fr sz) 0).1.flatMap frameB).length) (by intro x hx; simp [DSt.new] at hx) (by rw [hl]; exact h) hI.le
  have e : fAll (piece (DSt.new N).bytes fr sz) 0 = ([], 0) := by
    have e1 : piece (DSt.new N).bytes fr sz = List.replicate sz 0 := by
      show piece (List.replicate N 0) fr sz = _
      unfold piece
      rw [List.drop_replicate, List.take_replicate]
      congr 1; omega
    rw [e1]
    have := fAll_frames (ps := []) (X := List.replicate sz 0) (by simp) (by rw [fGet_zeros]; simp)
    simpa using this
  refine ⟨_, _, _, rfl, rfl, rfl, hI, n2, by rw [n3]; rfl, by rw [n1, hl], by rw [e], by rw [e]; rfl⟩

theorem openInv {d : DSt} {fr sz used : Nat} {ps : List (List UInt8)} (hfit : ∀ x ∈ d.waits, x.1 + x.2.length ≤ d.lasts.length) (hr : fr + sz ≤ d.lasts.length) (h : fAll (piece d.bytes fr sz) 0 = (ps, (used : Int))) :
    ∃ d', d.nought fr sz used = d' ∧ LogInv d' fr sz used ps ∧ d'.waits = [] ∧ d'.syncs = d.syncs + 1 ∧ d'.lasts.length = d.lasts.length ∧ (ps.flatMap frameB).length = used := by
  have hI := LogInv.open_ hfit hr
  obtain ⟨r1, r2, r3, r4⟩ := fAll_is (piece d.bytes fr sz)
  rw [h] at hI r2 r3
  simp only [] at hI r2 r3
  have hu : (ps.flatMap frameB).length = used := by omega
  rw [hu] at hI
  obtain ⟨n1, n2, n3, n4⟩ := nought_len hfit hr hI.le
  exact ⟨_, rfl, hI, n2, n3, n1, hu⟩
section
variable {w0 w : World} {tl : List Thing} {pd : Value} {d : DSt}
theorem logOpen_inv (S : St w0 w (diskT pd d :: tl)) (fr sz : Nat) {ps : List (List UInt8)} {used : Nat} (hfit : ∀ x ∈ d.waits, x.1 + x.2.length ≤ d.lasts.length) (h : fAll (piece d.bytes fr sz) 0 = (ps, (used : Int)))
    (h1 : 1 ≤ sz) (h2 : fr + sz ≤ d.lasts.length) (hw : d.waits.length ≤ 1000) (hs : d.syncs < 100000000) :
    Calls Try.prog 31 #[pd, .int .i64 fr, .int .i64 sz] w fun e w' => ∃ g a c xs d', e = .returned (.tuple #[.pointer (some ⟨g, 0, none⟩), .slice a ps.length c, .int .i64 0]) ∧ xs.map BS.l = ps ∧ (∀ x ∈ xs, BS.Hd x) ∧
      LogInv d' fr sz used ps ∧ d'.waits = [] ∧ d'.syncs = d.syncs + 1 ∧ d'.lasts.length = d.lasts.length ∧ St w0 w' (cellsT g 99 (logC pd fr sz used) :: diskT pd d' :: rowsT eS bsRefs (.slice a ps.length c) xs :: tl) := by
  obtain ⟨d', e1, e2, e3, e4, e5, e6⟩ := openInv hfit h2 h
  refine (logOpen_yes S fr sz h1 h2 hw hs).mono ?_
  rintro e w' ⟨g, a, c, xs, q1, q2, q3, q4⟩
  rw [h] at q1 q2 q4
  simp only [] at q1 q2 q4
  rw [e6, e1] at q4
  exact ⟨g, a, c, xs, d', q1, q2, q3, e2, e3, e4, e5, q4⟩
theorem same_rows {r : List Thing} (S : St w0 w r) {k j : Nat} {a b : Option Addr} {n m c c' : Nat} {xs ys : List BS} (hk : r[k]? = some (rowsT eS bsRefs (.slice a n c) xs)) (hx : ∀ x ∈ xs, BS.Hd x) (hj : r[j]? = some (ownT eS (.slice b m c') ys)) (hy : ∀ x ∈ ys, BS.Hd x ∧ At w0 x.a x.l) (hn : n ≤ 1000000) (hm : m ≤ 1000000) :
    Calls Try.prog 24 #[.slice a n c, .slice b m c'] w fun e w' => e = .returned (.bool (xs.map BS.l == ys.map BS.l)) ∧ St w0 w' r := by
  have A := S.rowsAt eSok k hk
  have B := S.slG eSok j hj
  refine (same_any a b xs ys n m c c' w A.1 B.1 hn hm A.2.2.2.2.1 B.2.2.2.2 (fun x h => ⟨hx x h, A.2.2.2.2.2 x h _ (List.mem_singleton.2 rfl)⟩) (fun x h => ⟨(hy x h).1, S.old (hy x h).2⟩)).mono ?_
  rintro e w' ⟨h1, h2⟩
  exact ⟨h1, S.grow h2⟩
end

/-- Bytes that are only read, in a block of ours. -/
def roT (a : Option Addr) (l : List UInt8) : Thing where
  lies := fun w B F => At w a l ∧ (∀ x, a = some x → F x.block) ∧ ∀ b, F b → B ≤ b ∧ b < w.heap.size
  touch := fun ⟨h1, h2, h3⟩ ht _ hM => ⟨h1.touch ht (fun x hx => hM _ (h2 x hx)), h2, fun b hb => ⟨(h3 b hb).1, Nat.lt_of_lt_of_le (h3 b hb).2 ht.size⟩⟩
  low := fun h => h.2.2
theorem St.lit {w0 w : World} {r : List Thing} (S : St w0 w r) (l : List UInt8) (c : Array Value) (hc : c.toList = l.map bv) (f : Nat × Nat) : St w0 (w.alloc (.cells c 5 f)) (roT (some ⟨w.heap.size, 0, none⟩) l :: r) :=
  (S.push ((Below.refl _ _).alloc (Nat.le_refl _) _) (y := roT (some ⟨w.heap.size, 0, none⟩) l) (F := fun b => b = w.heap.size) ⟨At.mark hc f, fun x hx => by cases hx; rfl, fun b hb => by subst hb; exact ⟨S.size, by simp⟩⟩ (fun b hb => by subst hb; exact Nat.le_refl _)).rot
theorem Reads.ro {w0 : World} {l : List Thing} (j : Nat) {a : Option Addr} {b : List UInt8} (h : l[j]? = some (roT a b)) : Reads w0 l a b := by
  intro w pre S
  obtain ⟨F, h1, _⟩ := S.head (pre.length + j) (by rw [List.getElem?_append_right (by omega), Nat.add_sub_cancel_left]; exact h)
  exact h1

end Go.Proofs.Ytmfbbonppmhabaa
