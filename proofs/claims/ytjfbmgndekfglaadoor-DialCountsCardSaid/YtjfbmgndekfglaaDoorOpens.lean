/- Arguments opened: rows of fields, slices of rows. What is opened of slices of slices. -/
import Derived.Test.YtjfbmgndekfglaaDoorGround
import Derived.Deep.Slices
import Derived.Deep.Fields
import Derived.ChangeSame
import Derived.Test.YtjfbmgndekfglaaDoorFrames
namespace Go.Proofs.YtjfbmgndekfglaaDoor
set_option linter.unusedVariables false
set_option linter.unusedSimpArgs false
open Go.RowKit Go.ChangeShapes Go.WideShapes Go.Deep

/-- What a cell holds. -/
inductive Lf
  | int
  | bool
  | bytes
  | other (t : TypeId)
inductive LV
  | int (n : Int)
  | bool (b : Bool)
  | bytes (a : Option Addr) (n c : Nat) (l : List UInt8)
  | other (v : Value)
def LV.cell : LV → Value
  | .int n => .int .i64 n
  | .bool b => .bool b
  | .bytes a n c _ => .slice a n c
  | .other v => v
/-- The cells of a type, field by field. -/
def leaves (P : Program) : Nat → TypeId → Option (List Lf)
  | 0, t => some [.other t]
  | n + 1, t => match P.underlying t with
    | some (.int .i64) => some [.int]
    | some .bool => some [.bool]
    | some (.slice e) => match P.underlying e with
      | some (.int .u8) => if P.cellsOf e = 1 then some [.bytes] else none
      | _ => if P.cellsOf t = 1 then some [.other t] else none
    | some (.struct fs) => (fs.toList.foldl (fun o f => o.bind fun l => (leaves P n f.type).bind fun m => if f.offset = l.length ∧ P.cellsOf f.type = m.length then some (l ++ m) else none) (some [])).bind fun l => if P.cellsOf t = l.length then some l else none
    | _ => if P.cellsOf t = 1 then some [.other t] else none

section
variable {H : Type} {enc : TypeId × Value → H} {P : Program} {w : World} {base : Nat} {spare : Nat → Bool} {held : Bool}

def LV.Ok (enc : TypeId × Value → H) (P : Program) (w : World) (base : Nat) (spare : Nat → Bool) (held : Bool) : Lf → LV → Prop
  | .int, .int n => -9223372036854775808 ≤ n ∧ n ≤ 9223372036854775807
  | .bool, .bool _ => True
  | .bytes, .bytes a n c l => l.length = n ∧ n ≤ c ∧ c ≤ maxLen ∧ (a = none → c = 0) ∧ At w a l
  | .other t, .other v => ∃ fuel x, DataW.trod enc P w base spare held fuel t [v] = some x
  | _, _ => False
/-- The cells `cs` hold what `ks` say. -/
def Row (enc : TypeId × Value → H) (P : Program) (w : World) (base : Nat) (spare : Nat → Bool) (held : Bool) : List Lf → List LV → Prop
  | [], [] => True
  | k :: ks, v :: vs => LV.Ok enc P w base spare held k v ∧ Row enc P w base spare held ks vs
  | _, _ => False
theorem Row.append : ∀ {ks js : List Lf} {vs us : List LV}, Row enc P w base spare held ks vs → Row enc P w base spare held js us → Row enc P w base spare held (ks ++ js) (vs ++ us)
  | [], _, [], _, _, h => h
  | [], _, _ :: _, _, h, _ => h.elim
  | _ :: _, _, [], _, h, _ => h.elim
  | _ :: _, _, _ :: _, _, ⟨h1, h2⟩, k => ⟨h1, Row.append h2 k⟩
theorem Row.len : ∀ {ks : List Lf} {vs : List LV}, Row enc P w base spare held ks vs → vs.length = ks.length
  | [], [], _ => rfl
  | [], _ :: _, h => h.elim
  | _ :: _, [], h => h.elim
  | _ :: _, _ :: _, ⟨_, h⟩ => by rw [List.length_cons, List.length_cons, Row.len h]

theorem Row.nil {vs : List LV} (h : Row enc P w base spare held [] vs) : vs = [] := by
  cases vs with
  | nil => rfl
  | cons v vs => exact h.elim
theorem Row.int {ks : List Lf} {vs : List LV} (h : Row enc P w base spare held (.int :: ks) vs) : ∃ n us, vs = .int n :: us ∧ (-9223372036854775808 ≤ n ∧ n ≤ 9223372036854775807) ∧ Row enc P w base spare held ks us := by
  cases vs with
  | nil => exact h.elim
  | cons v vs => cases v with
    | int n => exact ⟨n, vs, rfl, h.1, h.2⟩
    | _ => exact h.1.elim
theorem Row.bool {ks : List Lf} {vs : List LV} (h : Row enc P w base spare held (.bool :: ks) vs) : ∃ n us, vs = .bool n :: us ∧ Row enc P w base spare held ks us := by
  cases vs with
  | nil => exact h.elim
  | cons v vs => cases v with
    | bool n => exact ⟨n, vs, rfl, h.2⟩
    | _ => exact h.1.elim
theorem Row.bytes {ks : List Lf} {vs : List LV} (h : Row enc P w base spare held (.bytes :: ks) vs) : ∃ a n c l us, vs = .bytes a n c l :: us ∧ (l.length = n ∧ n ≤ c ∧ c ≤ maxLen ∧ (a = none → c = 0) ∧ At w a l) ∧ Row enc P w base spare held ks us := by
  cases vs with
  | nil => exact h.elim
  | cons v vs => cases v with
    | bytes a n c l => exact ⟨a, n, c, l, vs, rfl, h.1, h.2⟩
    | _ => exact h.1.elim
theorem Row.other {t : TypeId} {ks : List Lf} {vs : List LV} (h : Row enc P w base spare held (.other t :: ks) vs) : ∃ v us, vs = .other v :: us ∧ (∃ fuel x, DataW.trod enc P w base spare held fuel t [v] = some x) ∧ Row enc P w base spare held ks us := by
  cases vs with
  | nil => exact h.elim
  | cons v vs => cases v with
    | other v => exact ⟨v, vs, rfl, h.1, h.2⟩
    | _ => exact h.1.elim

/-- Bytes that are read. -/
theorem open_bytes {t e : TypeId} {fuel : Nat} {cs : List Value} {x : DataW H × List MemPlace} (ht : P.underlying t = some (.slice e)) (he : P.underlying e = some (.int .u8)) (hc : P.cellsOf e = 1)
    (h : DataW.trod enc P w base spare held fuel t cs = some x) : ∃ a n c l, cs = [.slice a n c] ∧ l.length = n ∧ n ≤ c ∧ c ≤ maxLen ∧ (a = none → c = 0) ∧ At w a l := by
  rcases open_ints ht he hc h with ⟨rfl, _⟩ | ⟨x, l, c, zs, rfl, _, hl, hm, hz, _, hcell, hwz⟩
  · exact ⟨none, 0, 0, [], rfl, rfl, Nat.le_refl _, by unfold maxLen; omega, fun _ => rfl, At.nil _ _⟩
  · have hlz : l ≤ zs.length := by rw [hz]; split <;> omega
    refine ⟨some x, l, c, (zs.take l).map fun z => UInt8.ofNat z.toNat, rfl, by rw [List.length_map, List.length_take]; omega, hl, hm, (fun e => by cases e), ?_⟩
    intro k hk
    rw [List.length_map, List.length_take] at hk
    refine ⟨rfl, ?_⟩
    have hk' : k < zs.length := by omega
    have hb := hwz zs[k] (List.getElem_mem hk')
    have hbd := u8_wf hb
    simp only [adr, Option.getD_some, hcell k hk']
    have e : zs.getD k 0 = zs[k] := by simp [List.getD, hk']
    rw [e]
    simp only [List.getElem_map, List.getElem_take, UInt8.toNat_ofNat']
    congr 2
    omega

theorem open_leaves : ∀ (n : Nat) {t : TypeId} {ks : List Lf} {fuel : Nat} {cs : List Value} {x : DataW H × List MemPlace}, leaves P n t = some ks → cs.length = P.cellsOf t → P.cellsOf t = ks.length → DataW.trod enc P w base spare held fuel t cs = some x →
    ∃ vs, cs = vs.map LV.cell ∧ Row enc P w base spare held ks vs
  | 0, t, ks, fuel, cs, x, hks, hl, hc, h => by
    simp only [leaves, Option.some.injEq] at hks
    subst hks
    match cs, hl.trans hc with
    | [v], _ => exact ⟨[.other v], rfl, ⟨fuel, x, h⟩, trivial⟩
  | n + 1, t, ks, fuel, cs, x, hks, hl, hc, h => by
    have hl' := hl
    have other : ks = [.other t] → ∃ vs, cs = vs.map LV.cell ∧ Row enc P w base spare held ks vs := by
      rintro rfl
      match cs, hl.trans hc with
      | [v], _ => exact ⟨[.other v], rfl, ⟨fuel, x, h⟩, trivial⟩
    unfold leaves at hks
    split at hks
    · rename_i hu
      cases hks
      obtain ⟨m, rfl, _, hm⟩ := DataW.trod_int hu h
      exact ⟨[.int m], rfl, i64_wf hm, trivial⟩
    · rename_i hu
      cases hks
      obtain ⟨b, rfl, _⟩ := DataW.trod_bool hu h
      exact ⟨[.bool b], rfl, trivial, trivial⟩
    · rename_i e hu
      split at hks
      · rename_i he
        split at hks
        · rename_i hc1
          cases hks
          obtain ⟨a, k, c, l, rfl, h1, h2, h3, h4, h5⟩ := open_bytes hu he hc1 h
          exact ⟨[.bytes a k c l], rfl, ⟨h1, h2, h3, h4, h5⟩, trivial⟩
        · cases hks
      · split at hks
        · cases hks; exact other rfl
        · cases hks
    · rename_i fs hu
      obtain ⟨xs, m, rfl, _, hlen, hxl, hf⟩ := DataW.trod_struct hu h
      obtain ⟨l, hl1, hl2⟩ := Option.bind_eq_some_iff.1 hks
      split at hl2
      · cases hl2
        rename_i hcl
        have key : ∀ (j : Nat) (l : List Lf), j ≤ fs.toList.length → (fs.toList.take j).foldl (fun o f => o.bind fun l => (leaves P n f.type).bind fun m => if f.offset = l.length ∧ P.cellsOf f.type = m.length then some (l ++ m) else none) (some []) = some l → l.length ≤ ks.length →
            ∃ vs, cs.take l.length = vs.map LV.cell ∧ Row enc P w base spare held l vs := by
          intro j
          induction j with
          | zero =>
            intro l _ hl _
            simp at hl
            subst hl
            exact ⟨[], by simp, trivial⟩
          | succ j ih =>
            intro l hj hl hle
            have hj' : j < fs.toList.length := by omega
            rw [List.take_succ_eq_append_getElem hj', List.foldl_append] at hl
            simp only [List.foldl_cons, List.foldl_nil] at hl
            obtain ⟨l0, h0, hl⟩ := Option.bind_eq_some_iff.1 hl
            obtain ⟨m0, hm0, hl⟩ := Option.bind_eq_some_iff.1 hl
            split at hl
            · rename_i hoc
              cases hl
              obtain ⟨vs, hv1, hv2⟩ := ih l0 (by omega) h0 (by rw [List.length_append] at hle; omega)
              have hfj := hf j fs.toList[j] (by simp at hj'; simp [hj'])
              obtain ⟨y, hy⟩ : ∃ y, xs[j]? = some y := ⟨xs[j]'(by rw [hxl]; simpa using hj'), List.getElem?_eq_getElem _⟩
              rw [hy, hoc.1, hoc.2] at hfj
              have hcut : ((cs.drop l0.length).take m0.length).length = m0.length := by
                rw [List.length_take, List.length_drop, hl', hcl]
                rw [List.length_append] at hle; omega
              obtain ⟨us, hu1, hu2⟩ := open_leaves n hm0 (by rw [hcut, hoc.2]) hoc.2 hfj
              exact ⟨vs ++ us, by rw [List.length_append, List.take_add, hv1, hu1, List.map_append], hv2.append hu2⟩
            · cases hl
        obtain ⟨vs, h1, h2⟩ := key fs.toList.length ks (Nat.le_refl _) (by rw [List.take_length]; exact hl1) (Nat.le_refl _)
        rw [← hcl, ← hl, List.take_length] at h1
        exact ⟨vs, h1, h2⟩
      · cases hl2
    · split at hks
      · cases hks; exact other rfl
      · cases hks

/-- A slice of such elements. -/
theorem open_elts {α : Type} {E : Elt α} (ok : α → Prop) {fuel : Nat} {cs : List Value} {x : DataW H × List MemPlace} (hT : P.underlying E.T = some (.slice E.E)) (hs : P.cellsOf E.E = E.s)
    (hconv : ∀ (fuel : Nat) (cs : List Value) (x : DataW H × List MemPlace), cs.length = E.s → DataW.trod enc P w base spare held fuel E.E cs = some x → ∃ y, cs = E.enc y ∧ ok y)
    (h : DataW.trod enc P w base spare held fuel E.T cs = some x) :
    ∃ a len cap L, cs = [.slice a len cap] ∧ L.length = len ∧ len ≤ cap ∧ cap ≤ maxLen ∧ (a = none → cap = 0) ∧ AtG E w a L ∧ ∀ y ∈ L, ok y := by
  rcases open_slice hT h with ⟨rfl, _⟩ | ⟨a, len, cap, m, n, D, Pl, rfl, hb, hl, hm, hmm, hx, hi⟩
  · exact ⟨none, 0, 0, [], rfl, rfl, Nat.le_refl _, by unfold maxLen; omega, fun _ => rfl, AtG.nil _ _, by simp⟩
  · have hlm : len ≤ m := by rw [hmm]; split <;> omega
    have hall : ∀ i, i < len → ∃ y : α, (∀ j, j < E.s → w.cell? (a.add (i * E.s + j)) = (E.enc y)[j]?) ∧ ok y := by
      intro i hil
      obtain ⟨cs', hc, ht'⟩ := hi i (by omega)
      rw [hs] at hc
      obtain ⟨_, hcl, hat⟩ := World.cells?_some hc
      obtain ⟨y, rfl, hy⟩ := hconv _ _ _ hcl ht'
      refine ⟨y, fun j hj => ?_, hy⟩
      rw [← Go.Deep.add_add]
      exact hat j hj
    rcases Nat.eq_zero_or_pos len with h0 | h0
    · subst h0
      exact ⟨some a, 0, cap, [], rfl, rfl, hl, hm, (fun e => by cases e), AtG.nil _ _, by simp⟩
    haveI : Inhabited α := ⟨Classical.choose (hall 0 h0)⟩
    obtain ⟨f, hf⟩ := choose_lt hall
    refine ⟨some a, len, cap, (List.range len).map f, rfl, by simp, hl, hm, (fun e => by cases e), ?_, ?_⟩
    · intro k hk
      simp at hk
      refine ⟨rfl, fun j hj => ?_⟩
      simp only [adr, Option.getD_some, List.getElem_map, List.getElem_range]
      exact (hf k hk).1 j hj
    · intro y hy
      obtain ⟨k, hk, rfl⟩ := List.mem_map.1 hy
      exact (hf k (List.mem_range.1 hk)).2
end

end Go.Proofs.YtjfbmgndekfglaaDoor

namespace Go.Proofs.YtjfbmgndekfglaaDoor
set_option linter.unusedVariables false
set_option linter.unusedSimpArgs false
open Go.RowKit

end Go.Proofs.YtjfbmgndekfglaaDoor
