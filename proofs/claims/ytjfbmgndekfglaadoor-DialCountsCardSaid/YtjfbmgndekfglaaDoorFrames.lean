/- The walks of layer 3: slices.Concat, Put. frame.Put and the document's. The document's frames (dunnageref03): Put. frame.Get. Frames: lists alone. dunnageref03.Get. All the frames from a place on: frame.All, dunnageref03.All, Same. Frames, put and turned: lists alone. -/
import Derived.Test.YtjfbmgndekfglaaDoorThings
import Derived.Test.YtjfbmgndekfglaaDoorCodes
import Derived.Test.YtjfbmgndekfglaaDoorSums
import Derived.Lib.AppendZeros
import Derived.Test.YtjfbmgndekfglaaDoorDisks
import Derived.Test.YtjfbmgndekfglaaDoorGround
namespace Go.Proofs.YtjfbmgndekfglaaDoor
set_option linter.unusedVariables false
set_option linter.unusedSimpArgs false
open Go.RowKit

def total (L : List BS) : Nat := (L.map (·.n)).sum
theorem total_take {L : List BS} {k : Nat} (h : k < L.length) : total (L.take (k + 1)) = total (L.take k) + L[k].n := by
  unfold total; rw [List.take_succ_eq_append_getElem h]; simp only [List.map_append, List.map_cons, List.map_nil, List.sum_append, List.sum_cons, List.sum_nil, Nat.add_zero]
theorem total_le (L : List BS) (k : Nat) : total (L.take k) ≤ total L := by
  have h : total L = total (L.take k) + total (L.drop k) := by
    unfold total; rw [← List.sum_append, ← List.map_append, List.take_append_drop]
  omega
theorem flat_take {L : List BS} {k : Nat} (h : k < L.length) : (L.take (k + 1)).flatMap (·.l) = (L.take k).flatMap (·.l) ++ L[k].l := by
  rw [List.take_succ_eq_append_getElem h]; simp only [List.flatMap_append, List.flatMap_cons, List.flatMap_nil, List.append_nil]
theorem total_flat {L : List BS} {w : World} (h : ∀ x ∈ L, BS.Ok w x) (k : Nat) : ((L.take k).flatMap (·.l)).length = total (L.take k) := by
  unfold total
  rw [List.length_flatMap]
  congr 1
  apply List.map_congr_left
  intro x hx
  exact (h x (List.mem_of_mem_take hx)).len

end Go.Proofs.YtjfbmgndekfglaaDoor

namespace Go.Proofs.YtjfbmgndekfglaaDoor
set_option linter.unusedVariables false
set_option linter.unusedSimpArgs false
open Go.RowKit

/-- A payload's frame. -/
def frameB (l : List UInt8) : List UInt8 := if l.length = 0 ∨ 4000 < l.length then [] else codeNum l.length ++ l ++ putB (sumOf l) ++ [1]
theorem atG_lit {α : Type} {e : Elt α} (he : e.Ok) (w : World) (l : List α) (c : Array Value) (hc : c.toList = l.flatMap e.enc) (hm : l.length ≤ maxLen) : AtG e (w.alloc (.cells c e.E)) (some ⟨w.heap.size, 0, none⟩) l := by
  obtain ⟨a, c', e1, _, _, _, h, _⟩ := OwnG.at he (ownG_new he w w.heap.size l c l.length rfl hc hm (Nat.le_refl _))
  cases e1; exact h

end Go.Proofs.YtjfbmgndekfglaaDoor

namespace Go.Proofs.YtjfbmgndekfglaaDoor
set_option linter.unusedVariables false
set_option linter.unusedSimpArgs false
open Go.RowKit

end Go.Proofs.YtjfbmgndekfglaaDoor

namespace Go.Proofs.YtjfbmgndekfglaaDoor
set_option linter.unusedVariables false
set_option linter.unusedSimpArgs false
open Go.RowKit

theorem cut_lhm (a : Option Addr) (n cap lo hi mx : Nat) (i j k : Int) (ei : i = lo) (ej : j = hi) (ek : k = mx) (h1 : lo ≤ hi) (h2 : hi ≤ mx) (h3 : mx ≤ cap) (wx : World) :
    (Instr.slice 70 (.slice a n cap) (some (.int .i64 i)) (some (.int .i64 j)) (some (.int .i64 k))).run Tryd.prog wx = .ok (.slice (cutH a lo mx) (hi - lo) (mx - lo)) wx := by
  subst ei ej ek
  rw [run_slice_any wx _ a n cap sliceT]
  have e1 : ((lo : Int)) ≤ (hi : Int) := by omega
  have e2 : ((hi : Int)) ≤ (mx : Int) := by omega
  have e3 : ((mx : Int)) ≤ (cap : Int) := by omega
  have hb : (Instr.sliceBounds true n cap (some (.int .i64 (lo : Int))) (some (.int .i64 (hi : Int))) (some (.int .i64 (mx : Int)))).run Tryd.prog wx = .ok (lo, hi, mx) wx := by
    simp [Instr.sliceBounds, run_sliceBound, e1, e2, e3]
  rw [hb]
  simp only [Result.andThen]
  rw [sizeT]
  simp [Result.andThen, sliced, cutH]

/-- What stands behind a number. -/
def fBody (l : List UInt8) (at_ : Int) (n x : Nat) : List UInt8 × Int × Int :=
  if 4000 < n ∨ l.length ≤ x + n + 4 then ([], at_, 2)
  else if isB ((l.drop x).take (n + 4)) = true ∧ l[x + n + 4]?.getD 0 = 1 then ((l.drop x).take n, ((x + n + 5 : Nat) : Int), 1) else ([], at_, 2)
def fNum (l : List UInt8) (at_ : Int) : Option (Nat × Nat) → List UInt8 × Int × Int
  | none => ([], at_, 2)
  | some q => fBody l at_ q.1 q.2
/-- What stands at a place: the payload, the place behind it, and what it is. -/
def fGet (l : List UInt8) (at_ : Int) : List UInt8 × Int × Int :=
  if at_ < 0 ∨ (l.length : Int) < at_ then ([], at_, 2)
  else if l[at_.toNat]?.getD 0 = 0 then ([], at_, 0)
  else fNum l at_ (getNum l at_)

def GetPost (r : List UInt8 × Int × Int) (B : Nat) (e : Ending) (w' : World) : Prop := ∃ a c, e = .returned (.tuple #[.slice a r.1.length c, .int .i64 r.2.1, .int .i64 r.2.2]) ∧ Own w' B (.slice a r.1.length c) r.1

end Go.Proofs.YtjfbmgndekfglaaDoor

namespace Go.Proofs.YtjfbmgndekfglaaDoor
set_option linter.unusedVariables false
set_option linter.unusedSimpArgs false
open Go.RowKit

theorem getNum_drop {l : List UInt8} {k m x : Nat} (h : getNum l k = some (m, x)) : getNum (l.drop k) 0 = some (m, x - k) ∧ k < x ∧ x ≤ l.length := by
  have hs := getNum_some h
  have hk : k < l.length := by omega
  rw [getNum_at' hk] at h
  obtain ⟨q, hq, e⟩ := Option.map_eq_some_iff.1 h
  have h0 : 0 < (l.drop k).length := by rw [List.length_drop]; omega
  have := getNum_at' (l := l.drop k) (p := 0) h0
  rw [show ((0 : Nat) : Int) = 0 from rfl] at this
  rw [this, List.drop_zero, hq]
  simp only [Prod.mk.injEq] at e
  obtain ⟨rfl, rfl⟩ := e
  refine ⟨by simp, by omega, by omega⟩
theorem getNum_code {l : List UInt8} {k m x : Nat} (h : getNum l k = some (m, x)) : codeNum m = (l.drop k).take (x - k) ∧ (codeNum m).length = x - k := by
  obtain ⟨h1, h2, h3⟩ := getNum_drop h
  have e := getNum_back h1
  exact ⟨e, by rw [e, List.length_take, List.length_drop]; omega⟩
theorem getNum_pos {l : List UInt8} {k m x : Nat} (h : getNum l k = some (m, x)) (hz : l[k]?.getD 0 ≠ 0) : 1 ≤ m := by
  rcases Nat.eq_zero_or_pos m with h0 | h0
  · subst h0
    have hc := (getNum_code h).1
    have e0 : codeNum ((0 : Nat) : Int) = [0] := by kernel_rfl
    rw [e0] at hc
    exfalso
    apply hz
    have h2 := (getNum_drop h).2.1
    have : ((l.drop k).take (x - k))[0]? = some 0 := by rw [← hc]; rfl
    rw [List.getElem?_take_of_lt (by omega), List.getElem?_drop, Nat.add_zero] at this
    rw [this]; rfl
  · exact h0
/-- The document's answer behind a number. -/
def rBody (l : List UInt8) (k m x : Nat) : List UInt8 × Int × Int :=
  if 4000 < m ∨ l.length < x + m then ([], (k : Int), 2)
  else if l.length < k + (frameB ((l.drop x).take m)).length ∨ frameB ((l.drop x).take m) ≠ (l.drop k).take (frameB ((l.drop x).take m)).length then ([], (k : Int), 2)
  else ((l.drop x).take m, ((k + (frameB ((l.drop x).take m)).length : Nat) : Int), 1)
theorem rBody_eq {l : List UInt8} {k m x : Nat} (h : getNum l k = some (m, x)) (hm : 1 ≤ m) : rBody l k m x = fBody l k m x := by
  obtain ⟨hc, hcl⟩ := getNum_code h
  obtain ⟨_, hkx, hxl⟩ := getNum_drop h
  unfold rBody fBody
  by_cases h4 : 4000 < m
  · rw [if_pos (.inl h4), if_pos (.inl h4)]
  by_cases h5 : l.length < x + m
  · rw [if_pos (.inr h5), if_pos (.inr (by omega))]
  rw [if_neg (by omega)]
  have hp : ((l.drop x).take m).length = m := by rw [List.length_take, List.length_drop]; omega
  generalize hpp : (l.drop x).take m = p at *
  have ef : frameB p = codeNum m ++ (p ++ (putB (sumOf p) ++ [1])) := by rw [frameB, hp, if_neg (by omega)]; simp
  have lf : (frameB p).length = (x - k) + m + 5 := by rw [ef]; simp only [List.length_append, hcl, hp, putB_length, List.length_singleton]; omega
  rw [lf]
  by_cases h6 : l.length ≤ x + m + 4
  · rw [if_pos (.inl (by omega)), if_pos (.inr h6)]
  rw [if_neg (by omega : ¬ (4000 < m ∨ l.length ≤ x + m + 4))]
  have h7 : ¬ l.length < k + ((x - k) + m + 5) := by omega
  have e1 : (l.drop k).take ((x - k) + m + 5) = codeNum m ++ (p ++ ((l.drop (x + m)).take 4 ++ [l[x + m + 4]])) := by
    have d1 : (l.drop k).take ((x - k) + m + 5) = (l.drop k).take (x - k) ++ ((l.drop k).drop (x - k)).take (m + 5) := by
      rw [show (x - k) + m + 5 = (x - k) + (m + 5) by omega, List.take_add]
    have d2 : ((l.drop k).drop (x - k)) = l.drop x := by rw [List.drop_drop]; congr 1; omega
    have d3 : (l.drop x).take (m + 5) = (l.drop x).take m ++ ((l.drop x).drop m).take 5 := List.take_add
    have d4 : ((l.drop x).drop m) = l.drop (x + m) := List.drop_drop
    have d5 : (l.drop (x + m)).take 5 = (l.drop (x + m)).take 4 ++ [l[x + m + 4]] := by
      have hlt : 4 < (l.drop (x + m)).length := by rw [List.length_drop]; omega
      rw [List.take_succ_eq_append_getElem hlt]
      congr 2
      simp
    rw [d1, d2, d3, d4, d5, ← hc, hpp]
  have e2 : isB ((l.drop x).take (m + 4)) = (putB (sumOf p) == (l.drop (x + m)).take 4) := by
    have d3 : (l.drop x).take (m + 4) = p ++ (l.drop (x + m)).take 4 := by
      rw [List.take_add, hpp, List.drop_drop]
    have dl : ((l.drop (x + m)).take 4).length = 4 := by rw [List.length_take, List.length_drop]; omega
    unfold isB
    rw [d3, List.length_append, hp, dl, Nat.add_sub_cancel, List.take_left' hp, List.drop_left' hp]
    simp
  rw [List.getElem?_eq_getElem (by omega : x + m + 4 < l.length), Option.getD_some, e2, ef, e1]
  by_cases h8 : putB (sumOf p) = (l.drop (x + m)).take 4 ∧ l[x + m + 4] = 1
  · rw [if_neg (by rw [h8.1, h8.2]; simp; omega), if_pos ⟨by rw [beq_iff_eq]; exact h8.1, h8.2⟩]
    congr 2
    omega
  · rw [if_pos, if_neg (by rw [beq_iff_eq]; exact h8)]
    right
    intro he
    apply h8
    have he := List.append_cancel_left he
    have he := List.append_cancel_left he
    have := List.append_inj' he rfl
    exact ⟨this.1, by have := this.2; simp at this; exact this.symm⟩

end Go.Proofs.YtjfbmgndekfglaaDoor

namespace Go.Proofs.YtjfbmgndekfglaaDoor
set_option linter.unusedVariables false
set_option linter.unusedSimpArgs false
open Go.RowKit

theorem St.lit0 {w0 w : World} {l : List Thing} (S : St w0 w l) : St w0 (w.alloc (.cells #[] 5)) (l ++ [bytesT (.slice (some ⟨w.heap.size, 0, none⟩) 0 0) []]) :=
  S.bytes (own_new w w.heap.size [] #[] 0 rfl rfl (by unfold maxLen; simp) (Nat.le_refl _)) ((Below.refl _ _).alloc (Nat.le_refl _) _)

end Go.Proofs.YtjfbmgndekfglaaDoor

namespace Go.Proofs.YtjfbmgndekfglaaDoor
set_option linter.unusedVariables false
set_option linter.unusedSimpArgs false
open Go.RowKit

def fAllF : Nat → List UInt8 → Int → List (List UInt8) × Int
  | 0, _, at_ => ([], at_)
  | f + 1, l, at_ => if (fGet l at_).2.2 = 1 then ((fGet l at_).1 :: (fAllF f l (fGet l at_).2.1).1, (fAllF f l (fGet l at_).2.1).2) else ([], at_)
def fAll (l : List UInt8) (at_ : Int) : List (List UInt8) × Int := fAllF (l.length + 1) l at_
theorem fGet_one {l : List UInt8} {at_ : Int} (h : (fGet l at_).2.2 = 1) : 0 ≤ at_ ∧ at_ < (fGet l at_).2.1 ∧ (fGet l at_).2.1 ≤ l.length := by
  unfold fGet at h ⊢
  split at h
  · cases h
  rename_i h1
  rw [if_neg h1]
  split at h
  · cases h
  rename_i h2
  rw [if_neg h2]
  cases hg : getNum l at_ with
  | none => rw [hg] at h; cases h
  | some q =>
    rw [hg] at h
    obtain ⟨n, x⟩ := q
    have hs := getNum_some hg
    simp only [fNum] at h ⊢
    unfold fBody at h ⊢
    split at h
    · cases h
    rename_i h3
    rw [if_neg h3]
    split at h
    · rename_i h4
      rw [if_pos h4]
      exact ⟨by omega, by show at_ < ((x + n + 5 : Nat) : Int); omega, by show ((x + n + 5 : Nat) : Int) ≤ _; omega⟩
    · cases h
theorem fAllF_stop {l : List UInt8} {at_ : Int} (h : (fGet l at_).2.2 ≠ 1) : ∀ f, fAllF f l at_ = ([], at_)
  | 0 => rfl
  | f + 1 => by rw [fAllF, if_neg h]
/-- How far one has come. -/
structure AllAt (l : List UInt8) (at0 at_ : Int) (ps : List (List UInt8)) : Prop where
  some_ : ∃ f, fAll l at0 = (ps ++ (fAllF f l at_).1, (fAllF f l at_).2) ∧ ((l.length : Int) < f + at_ ∨ at_ < 0)
theorem AllAt.start (l : List UInt8) (at0 : Int) : AllAt l at0 at0 [] := ⟨l.length + 1, rfl, by omega⟩
theorem AllAt.step {l : List UInt8} {at0 at_ : Int} {ps : List (List UInt8)} (h : AllAt l at0 at_ ps) (h1 : (fGet l at_).2.2 = 1) : AllAt l at0 (fGet l at_).2.1 (ps ++ [(fGet l at_).1]) := by
  obtain ⟨f, e, hf⟩ := h.some_
  have g := fGet_one h1
  cases f with
  | zero => exfalso; omega
  | succ f =>
    rw [fAllF, if_pos h1] at e
    refine ⟨f, ?_, by omega⟩
    rw [e]
    simp
theorem AllAt.stop {l : List UInt8} {at0 at_ : Int} {ps : List (List UInt8)} (h : AllAt l at0 at_ ps) (h1 : (fGet l at_).2.2 ≠ 1) : fAll l at0 = (ps, at_) := by
  obtain ⟨f, e, _⟩ := h.some_
  rw [e, fAllF_stop h1, List.append_nil]
/-- What an element's header says. -/
structure BS.Hd (x : BS) : Prop where
  len : x.l.length = x.n
  le : x.n ≤ x.c
  big : x.c ≤ maxLen
  nil : x.a = none → x.c = 0
theorem Own.hd {w : World} {B : Nat} {a : Option Addr} {n c : Nat} {l : List UInt8} (h : Own w B (.slice a n c) l) : BS.Hd ⟨a, n, c, l⟩ := by
  obtain ⟨a', c', e, h1, h2, h3, _⟩ := OwnG.at eBok ((ownB _ _ _ _).2 h)
  cases e
  exact ⟨rfl, h1, h2, h3⟩
end Go.Proofs.YtjfbmgndekfglaaDoor

namespace Go.Proofs.YtjfbmgndekfglaaDoor
set_option linter.unusedVariables false
set_option linter.unusedSimpArgs false
open Go.RowKit

theorem numF_ends : ∀ (f n : Nat), 1 ≤ n → n < 128 ^ f → ∃ q c, numF f n = q ++ [c] ∧ c ≠ 0
  | 0, n, h, k => by simp at k; omega
  | f + 1, n, h, k => by
    rw [numF]
    split
    · rename_i hn
      refine ⟨[], UInt8.ofNat n, rfl, ?_⟩
      intro e
      have := congrArg UInt8.toNat e
      rw [UInt8.toNat_ofNat'] at this
      simp at this; omega
    · rename_i hn
      have hp : n / 128 < 128 ^ f := by rw [Nat.pow_succ] at k; omega
      obtain ⟨q, c, e, hc⟩ := numF_ends f (n / 128) (by omega) hp
      exact ⟨UInt8.ofNat (n % 128 + 128) :: q, c, by rw [e]; rfl, hc⟩
theorem numF_head : ∀ (f n : Nat), 1 ≤ n → ∃ c q, numF (f + 1) n = c :: q ∧ c ≠ 0
  | f, n, h => by
    rw [numF]
    split
    · rename_i hn
      refine ⟨UInt8.ofNat n, [], rfl, ?_⟩
      intro e
      have := congrArg UInt8.toNat e
      rw [UInt8.toNat_ofNat'] at this
      simp at this; omega
    · rename_i hn
      refine ⟨UInt8.ofNat (n % 128 + 128), _, rfl, ?_⟩
      intro e
      have := congrArg UInt8.toNat e
      rw [UInt8.toNat_ofNat'] at this
      simp at this; omega
theorem code_ends {m : Nat} (h : 1 ≤ m) (hm : m ≤ 9007199254740991) : ∃ q c, codeNum (m : Int) = q ++ [c] ∧ c ≠ 0 := by
  rw [codeNum_yes hm]; exact numF_ends 8 m h (by omega)
theorem code_head {m : Nat} (h : 1 ≤ m) (hm : m ≤ 9007199254740991) : ∃ c q, codeNum (m : Int) = c :: q ∧ c ≠ 0 := by
  rw [codeNum_yes hm]; exact numF_head 7 m h
theorem frame_parts {p : List UInt8} (h1 : 1 ≤ p.length) (h2 : p.length ≤ 4000) : frameB p = codeNum p.length ++ (p ++ (putB (sumOf p) ++ [1])) := by
  rw [frameB, if_neg (by omega)]; simp
theorem frame_len {p : List UInt8} (h1 : 1 ≤ p.length) (h2 : p.length ≤ 4000) : (frameB p).length = (codeNum p.length).length + p.length + 5 := by
  rw [frame_parts h1 h2]; simp only [List.length_append, putB_length, List.length_singleton]; omega
theorem getNum_frame (P R : List UInt8) {p : List UInt8} (h1 : 1 ≤ p.length) (h2 : p.length ≤ 4000) : getNum (P ++ (codeNum p.length ++ R)) P.length = some (p.length, P.length + (codeNum p.length).length) := by
  have := getNum_put P R (p.length : Int) (by simp [isNum]; omega)
  rw [List.append_assoc] at this
  simpa using this
theorem fGet_num {l : List UInt8} {k m x : Nat} (hg : getNum l k = some (m, x)) (hz : l[k]?.getD 0 ≠ 0) : fGet l k = fBody l k m x := by
  have hs := getNum_some hg
  rw [fGet, if_neg (by omega), Int.toNat_natCast, if_neg hz, hg]; rfl
theorem first_ne (P R : List UInt8) {p : List UInt8} (h1 : 1 ≤ p.length) (h2 : p.length ≤ 4000) : (P ++ (codeNum p.length ++ R))[P.length]?.getD 0 ≠ 0 := by
  obtain ⟨c, q, e, hc⟩ := code_head h1 (by omega)
  rw [e]; simpa using hc
theorem fGet_put (P R : List UInt8) {p : List UInt8} (h1 : 1 ≤ p.length) (h2 : p.length ≤ 4000) : fGet (P ++ (frameB p ++ R)) P.length = (p, ((P.length + (frameB p).length : Nat) : Int), 1) := by
  have hl := frame_len h1 h2
  have e0 : P ++ (frameB p ++ R) = P ++ (codeNum p.length ++ ((p ++ (putB (sumOf p) ++ [1])) ++ R)) := by rw [frame_parts h1 h2]; simp
  have hg := getNum_frame P ((p ++ (putB (sumOf p) ++ [1])) ++ R) h1 h2
  have hz := first_ne P ((p ++ (putB (sumOf p) ++ [1])) ++ R) h1 h2
  rw [← e0] at hg hz
  rw [fGet_num hg hz, ← rBody_eq hg h1, rBody]
  have hp : ((P ++ (frameB p ++ R)).drop (P.length + (codeNum p.length).length)).take p.length = p := by
    rw [e0, ← List.drop_drop, List.drop_left' rfl, List.drop_left' rfl]
    rw [List.append_assoc p, List.take_left' rfl]
  rw [hp]
  have hk : ((P ++ (frameB p ++ R)).drop P.length).take (frameB p).length = frameB p := by rw [List.drop_left' rfl, List.take_left' rfl]
  rw [hk, if_neg (by simp only [List.length_append]; omega), if_neg (fun h => h.elim (fun h => by simp only [List.length_append] at h; omega) (fun h => h rfl))]
/-- What can be said of bytes that begin with a frame's number. -/
theorem fGet_torn {p : List UInt8} (h1 : 1 ≤ p.length) (h2 : p.length ≤ 4000) (k z : Nat) (hk : k < (frameB p).length) : fGet ((frameB p).take k ++ List.replicate z 0) 0 = ([], 0, if k = 0 then 0 else 2) := by
  have hl := frame_len h1 h2
  obtain ⟨t, ht⟩ : ∃ t, (frameB p).take k ++ List.replicate z 0 = t := ⟨_, rfl⟩
  rw [ht]
  by_cases k0 : k = 0
  · subst k0
    rw [List.take_zero, List.nil_append] at ht
    rw [fGet, if_neg (by omega), if_pos, if_pos rfl]
    subst ht
    cases z <;> simp [List.replicate]
  rw [if_neg k0]
  have hz : t[0]?.getD 0 ≠ 0 := by
    obtain ⟨c, q, e, hc⟩ := code_head h1 (by omega)
    rw [← ht, frame_parts h1 h2, e]
    obtain ⟨j, rfl⟩ := Nat.exists_eq_succ_of_ne_zero k0
    simpa using hc
  have hz' : t[(0 : Int).toNat]?.getD 0 ≠ 0 := hz
  rw [fGet, if_neg (by omega), if_neg hz']
  have htl : t.length = k + z := by rw [← ht, List.length_append, List.length_take, List.length_replicate]; omega
  cases hg : getNum t 0 with
  | none => rfl
  | some q =>
    obtain ⟨m, x⟩ := q
    have hg' : getNum t ((0 : Nat) : Int) = some (m, x) := hg
    have hs := getNum_some hg
    have hm := getNum_pos hg' hz
    have hc := getNum_code hg'
    rw [List.drop_zero, Nat.sub_zero] at hc
    simp only [fNum]
    by_cases hx : x ≤ k
    · -- the number is whole: it is the frame's
      have e1 : t.take x = (frameB p).take x := by rw [← ht, List.take_append_of_le_length (by rw [List.length_take]; omega), List.take_take, Nat.min_eq_left hx]
      have e2 : getNum (frameB p) ((0 : Nat) : Int) = some (m, x) := by
        have h3 := getNum_put [] ((frameB p).drop x) (m : Int) (by simp [isNum]; omega)
        rw [List.nil_append, hc.1, e1, List.take_append_drop] at h3
        rw [← e1, ← hc.1] at h3
        simpa [hc.2] using h3
      have e3 := getNum_frame [] (p ++ (putB (sumOf p) ++ [1])) h1 h2
      rw [List.nil_append, ← frame_parts h1 h2] at e3
      have e4 : some (m, x) = some (p.length, (codeNum p.length).length) := by rw [← e2]; simpa using e3
      cases e4
      unfold fBody
      by_cases h5 : t.length ≤ (codeNum p.length).length + p.length + 4
      · rw [if_pos (.inr h5)]
      rw [if_neg (by omega), if_neg]
      rintro ⟨_, h6⟩
      rw [← ht, List.getElem?_append_right (by rw [List.length_take]; omega), List.getElem?_replicate] at h6
      split at h6 <;> simp at h6
    · exfalso
      obtain ⟨q, c, e, hc0⟩ := code_ends hm (by omega)
      rw [e] at hc
      have e1 : t.take x = (frameB p).take k ++ List.replicate (x - k) 0 := by
        rw [← ht, List.take_append, List.take_of_length_le (by rw [List.length_take]; omega), List.take_replicate, List.length_take]
        congr 2
        omega
      rw [e1, show x - k = (x - k - 1) + 1 by omega, List.replicate_succ', ← List.append_assoc] at hc
      have := (List.append_inj' hc.1 rfl).2
      simp at this
      exact hc0 this
theorem fGet_turned {p : List UInt8} (h1 : 1 ≤ p.length) (h2 : p.length ≤ 4000) (j : Nat) (hj : (codeNum p.length).length ≤ j) (hj2 : j < (frameB p).length) (d : UInt8) (hd : d ≠ (frameB p)[j]) : fGet ((frameB p).set j d) 0 = ([], 0, 2) := by
  have hl := frame_len h1 h2
  obtain ⟨i, rfl⟩ := Nat.exists_eq_add_of_le hj
  have ef := frame_parts h1 h2
  have es : (frameB p).set ((codeNum p.length).length + i) d = codeNum p.length ++ ((p ++ (putB (sumOf p) ++ [1])).set i d) := by
    rw [ef, List.set_append_right _ _ (by omega), Nat.add_sub_cancel_left]
  have hd' : d ≠ (p ++ (putB (sumOf p) ++ [1]))[i]'(by simp only [List.length_append, putB_length, List.length_singleton]; omega) := by
    have : (frameB p)[(codeNum p.length).length + i] = (p ++ (putB (sumOf p) ++ [1]))[i]'(by simp only [List.length_append, putB_length, List.length_singleton]; omega) := by
      simp only [ef]
      rw [List.getElem_append_right (by omega)]
      congr 1
      omega
    rw [← this]; exact hd
  obtain ⟨y, hy⟩ : ∃ y, (p ++ (putB (sumOf p) ++ [1])).set i d = y := ⟨_, rfl⟩
  have hyl : y.length = p.length + 5 := by rw [← hy]; simp only [List.length_set, List.length_append, putB_length, List.length_singleton]
  rw [es, hy]
  have hg := getNum_frame [] y h1 h2
  have hz := first_ne [] y h1 h2
  rw [List.nil_append] at hg hz
  have h3 := fGet_num hg hz
  simp only [List.length_nil, Nat.zero_add] at h3
  have h3' : fGet (codeNum p.length ++ y) 0 = fBody (codeNum p.length ++ y) 0 p.length (codeNum p.length).length := h3
  rw [h3', fBody, if_neg (by simp only [List.length_append, hyl]; omega), if_neg]
  rintro ⟨q1, q2⟩
  have hassoc : p ++ (putB (sumOf p) ++ [1]) = (p ++ putB (sumOf p)) ++ [1] := by simp
  have hpl : (p ++ putB (sumOf p)).length = p.length + 4 := by simp [putB_length]
  rw [List.drop_left' rfl] at q1
  rw [show (codeNum p.length).length + p.length + 4 = (codeNum p.length).length + (p.length + 4) by omega, List.getElem?_append_right (by omega), Nat.add_sub_cancel_left] at q2
  by_cases hi : i < p.length + 4
  · have ey : y = (p ++ putB (sumOf p)).set i d ++ [1] := by rw [← hy, hassoc, List.set_append_left _ _ (by rw [hpl]; exact hi)]
    rw [ey, List.take_left' (by rw [List.length_set, hpl])] at q1
    have := isB_turned p i d (by rw [hpl]; exact hi) (by
      have : (p ++ (putB (sumOf p) ++ [1]))[i]'(by simp only [List.length_append, putB_length, List.length_singleton]; omega) = (p ++ putB (sumOf p))[i]'(by rw [hpl]; exact hi) := by
        simp only [hassoc]
        rw [List.getElem_append_left (by rw [hpl]; exact hi)]
      rw [← this]; exact hd')
    rw [this] at q1; cases q1
  · have hi2 : i = p.length + 4 := by omega
    subst hi2
    have : (p ++ (putB (sumOf p) ++ [1]))[p.length + 4]'(by simp only [List.length_append, putB_length, List.length_singleton]; omega) = 1 := by
      simp only [hassoc]
      rw [List.getElem_append_right (by rw [hpl]; exact Nat.le_refl _)]
      simp
    rw [this] at hd'
    apply hd'
    rw [← hy, List.getElem?_set_self (by simp only [List.length_append, putB_length, List.length_singleton]; omega)] at q2
    simpa using q2

/-- Frames one behind the other. -/
theorem all_frames : ∀ (ps : List (List UInt8)) (P R : List UInt8) (at0 : Int) (qs : List (List UInt8)), (∀ p ∈ ps, 1 ≤ p.length ∧ p.length ≤ 4000) → AllAt (P ++ (ps.flatMap frameB ++ R)) at0 P.length qs →
    AllAt (P ++ (ps.flatMap frameB ++ R)) at0 ((P ++ ps.flatMap frameB).length : Nat) (qs ++ ps)
  | [], P, R, at0, qs, _, h => by simpa using h
  | p :: ps, P, R, at0, qs, hp, h => by
    have hp1 := hp p (by simp)
    have e : P ++ ((p :: ps).flatMap frameB ++ R) = P ++ (frameB p ++ (ps.flatMap frameB ++ R)) := by simp
    have hg := fGet_put P (ps.flatMap frameB ++ R) hp1.1 hp1.2
    rw [← e] at hg
    have h1 := h.step (by rw [hg])
    rw [hg] at h1
    have e2 : P ++ ((p :: ps).flatMap frameB ++ R) = (P ++ frameB p) ++ (ps.flatMap frameB ++ R) := by simp
    have h2 := all_frames ps (P ++ frameB p) R at0 (qs ++ [p]) (fun q hq => hp q (by simp [hq])) (by rw [← e2]; simpa using h1)
    rw [← e2] at h2
    have e3 : (P ++ (p :: ps).flatMap frameB) = (P ++ frameB p) ++ ps.flatMap frameB := by simp
    rw [e3]
    simpa using h2
theorem fAllF_end : ∀ (f : Nat) (l : List UInt8) (at_ : Int), 0 ≤ at_ → at_ ≤ l.length → (l.length : Int) < f + at_ → at_ ≤ (fAllF f l at_).2 ∧ (fAllF f l at_).2 ≤ l.length ∧ (fGet l (fAllF f l at_).2).2.2 ≠ 1
  | 0, l, at_, h0, h1, h2 => by omega
  | f + 1, l, at_, h0, h1, h2 => by
    rw [fAllF]
    by_cases hw : (fGet l at_).2.2 = 1
    · rw [if_pos hw]
      have hg := fGet_one hw
      have := fAllF_end f l (fGet l at_).2.1 (by omega) hg.2.2 (by omega)
      exact ⟨by show at_ ≤ (fAllF f l (fGet l at_).2.1).2; omega, this.2⟩
    · rw [if_neg hw]
      exact ⟨Int.le_refl _, h1, hw⟩

end Go.Proofs.YtjfbmgndekfglaaDoor
