/- Numbers and texts as bytes, as plain lists: no program in sight. The walks of layer 1's functions. The walks of layer 1's readers. The walk of layer 1's reader of lists. Plain laws of numbers as bytes. The walks of layer 1's reference. The walks of layer 1's reference, the readers and lists. -/
import Derived.WalkKit
import Derived.Test.YtjfbmgndekfglaaDoorGround
namespace Go.Proofs.YtjfbmgndekfglaaDoor
set_option linter.unusedVariables false
set_option linter.unusedSimpArgs false

/-- A number's bytes, with fuel. -/
def numF : Nat → Nat → List UInt8
  | 0, _ => []
  | f + 1, n => if n < 128 then [UInt8.ofNat n] else UInt8.ofNat (n % 128 + 128) :: numF f (n / 128)
/-- Is it a number? -/
def isNum (n : Int) : Bool := decide (0 ≤ n ∧ n ≤ 9007199254740991)
def codeNum (n : Int) : List UInt8 := if n < 0 ∨ 9007199254740991 < n then [] else numF 8 n.toNat
def codeText (s : List UInt8) : List UInt8 := codeNum s.length ++ s
def codeList (l : List Int) : List UInt8 := if l.all isNum then codeNum l.length ++ l.flatMap codeNum else []
/-- What stands at the head of bytes: the number, and how many bytes it has. -/
def getF : Nat → Nat → Nat → List UInt8 → Option (Nat × Nat)
  | 0, _, _, _ => none
  | _ + 1, _, _, [] => none
  | f + 1, i, acc, c :: l =>
    if 128 ≤ c.toNat then getF f (i + 1) (acc + (c.toNat % 128) * 128 ^ i) l
    else if (c.toNat = 0 ∧ 0 < i) ∨ 9007199254740991 < acc + (c.toNat % 128) * 128 ^ i then none else some (acc + (c.toNat % 128) * 128 ^ i, i + 1)
def getNum (l : List UInt8) (at_ : Int) : Option (Nat × Nat) :=
  if 0 ≤ at_ ∧ at_ < l.length then (getF 8 0 0 (l.drop at_.toNat)).map fun p => (p.1, at_.toNat + p.2) else none
def getText (l : List UInt8) (at_ : Int) : Option (List UInt8 × Nat) :=
  (getNum l at_).bind fun p => if p.1 ≤ l.length - p.2 then some ((l.drop p.2).take p.1, p.2 + p.1) else none
def getItems (l : List UInt8) : Nat → Nat → Option (List Int × Nat)
  | 0, x => some ([], x)
  | k + 1, x => (getNum l x).bind fun p => (getItems l k p.2).map fun q => ((p.1 : Int) :: q.1, q.2)
def getList (l : List UInt8) (at_ many : Int) : Option (List Int × Nat) :=
  (getNum l at_).bind fun p => if many < (p.1 : Int) then none else getItems l p.1 p.2

theorem num_step {f m : Nat} (h : 128 ≤ m) (hm : m < 128 ^ (f + 1)) : ∃ g, f = g + 1 ∧ numF (f + 1) m = UInt8.ofNat (m % 128 + 128) :: numF (g + 1) (m / 128) ∧ m / 128 < 128 ^ (g + 1) := by
  cases f with
  | zero => simp at hm; omega
  | succ g =>
    refine ⟨g, rfl, ?_, ?_⟩
    · rw [numF, if_neg (by omega)]
    · rw [Nat.pow_succ] at hm
      exact Nat.div_lt_of_lt_mul (by rw [Nat.mul_comm]; exact hm)
theorem num_last {f m : Nat} (h : m < 128) : numF (f + 1) m = [UInt8.ofNat m] := by rw [numF, if_pos h]
theorem codeNum_no {n : Int} (h : n < 0 ∨ 9007199254740991 < n) : codeNum n = [] := if_pos h
theorem codeNum_yes {n : Nat} (h : n ≤ 9007199254740991) : codeNum (n : Int) = numF 8 n := by
  unfold codeNum; rw [if_neg (by omega)]; rfl
theorem numF_len : ∀ f n, (numF f n).length ≤ f
  | 0, _ => by simp [numF]
  | f + 1, n => by
    rw [numF]; split
    · simp
    · have := numF_len f (n / 128); simp; omega
theorem numF_pos (f n : Nat) : 0 < (numF (f + 1) n).length := by rw [numF]; split <;> simp
theorem codeNum_len (n : Int) : (codeNum n).length ≤ 8 := by
  unfold codeNum; split
  · simp
  · exact numF_len _ _
theorem codeNum_nil (n : Int) : codeNum n = [] ↔ isNum n = false := by
  unfold codeNum isNum
  split
  · simp; omega
  · have := numF_pos 7 n.toNat
    simp
    constructor
    · intro h; rw [h] at this; simp at this
    · intro h; omega

theorem getF_some : ∀ (f i acc : Nat) (m : List UInt8) (n c : Nat), getF f i acc m = some (n, c) → n ≤ 9007199254740991 ∧ i < c ∧ c ≤ i + m.length ∧ c ≤ i + f
  | 0, _, _, _, _, _, h => by simp [getF] at h
  | f + 1, i, acc, [], _, _, h => by simp [getF] at h
  | f + 1, i, acc, x :: m, n, c, h => by
    rw [getF] at h
    split at h
    · obtain ⟨h1, h2, h3, h4⟩ := getF_some f (i + 1) _ m n c h
      simp
      omega
    · split at h
      · cases h
      · rename_i hn
        simp only [Option.some.injEq, Prod.mk.injEq] at h
        obtain ⟨rfl, rfl⟩ := h
        simp
        omega
theorem getNum_some {l : List UInt8} {at_ : Int} {n x : Nat} (h : getNum l at_ = some (n, x)) : n ≤ 9007199254740991 ∧ at_ < x ∧ x ≤ l.length ∧ 0 ≤ at_ := by
  unfold getNum at h
  split at h
  · rename_i hr
    simp only [Option.map_eq_some_iff] at h
    obtain ⟨⟨n', c⟩, h1, h2⟩ := h
    simp only [Prod.mk.injEq] at h2
    obtain ⟨rfl, rfl⟩ := h2
    obtain ⟨h3, h4, h5, _⟩ := getF_some _ _ _ _ _ _ h1
    simp at h5
    omega
  · cases h

end Go.Proofs.YtjfbmgndekfglaaDoor

namespace Go.Proofs.YtjfbmgndekfglaaDoor
set_option linter.unusedVariables false
set_option linter.unusedSimpArgs false
open Go.RowKit

/-- Integers in a slice. -/
def eI : Elt Int := { T := 41, E := 3, s := 1, byt := 8, z := .int .i64 0, enc := fun z => [.int .i64 z] }
theorem eIok : eI.Ok := ⟨fun _ => rfl, fun _ u hu => by simp [eI] at hu; subst hu; rfl, by decide, by kernel_rfl, by kernel_rfl, by rfl⟩
theorem idxI (a : Option Addr) (n cap : Nat) (hn : 0 < n → a.isSome = true) (k : Nat) (i : Int) (hi : i = (k : Int)) (hk : k < n) (wx : World) :
    (Instr.indexAt 41 (.slice a n cap) (.int .i64 i)).run Tryd.prog wx = .ok (.pointer (some (adr a k))) wx := by
  have := idxG eIok a n cap hn k i hi hk wx
  rwa [show k * eI.s = k from Nat.mul_one k] at this
theorem AtG.cellI {w : World} {a : Option Addr} {l : List Int} (h : AtG eI w a l) {k : Nat} (hk : k < l.length) : w.cell? (adr a k) = some (.int .i64 l[k]) := by
  have := (h k hk).2 0 (by decide)
  rwa [show k * eI.s + 0 = k from Nat.mul_one k] at this

theorem or_u8_128 (x : Int) (h0 : 0 ≤ x) (h1 : x < 128) : bits .or .u8 x 128 = x + 128 := by
  obtain ⟨n, rfl⟩ := Int.eq_ofNat_of_zero_le h0
  have h := (bits_nat .u8 8 (by decide) wraps_u8 n 128 (by omega) (by omega)).2
  rw [show ((128 : Int)) = ((128 : Nat) : Int) from rfl, h, Nat.or_comm]
  have := Nat.two_pow_add_eq_or_of_lt (b := n) (i := 7) (by omega) 1
  simp at this
  omega

theorem codeList_no {l : List Int} {k : Nat} (hk : k < l.length) (h : isNum l[k] = false) : codeList l = [] := by
  unfold codeList
  rw [if_neg]
  intro ha
  have := List.all_eq_true.1 ha l[k] (List.getElem_mem hk)
  rw [h] at this; cases this
theorem codeList_yes {l : List Int} (h : (l.take l.length).all isNum = true) : codeList l = codeNum l.length ++ l.flatMap codeNum := by
  unfold codeList; rw [List.take_length] at h; rw [if_pos h]

end Go.Proofs.YtjfbmgndekfglaaDoor

namespace Go.Proofs.YtjfbmgndekfglaaDoor
set_option linter.unusedVariables false
set_option linter.unusedSimpArgs false
open Go.RowKit

/-- A reader's three results. -/
def res3 : Option (Nat × Nat) → Value
  | some p => .tuple #[.int .i64 (p.1 : Int), .int .i64 (p.2 : Int), .bool true]
  | none => .tuple #[.int .i64 0, .int .i64 0, .bool false]

theorem getF_nil (f i acc : Nat) : getF f i acc [] = none := by cases f <;> rfl
theorem getNum_at {l : List UInt8} {p : Nat} (h : p < l.length) : getNum l p = (getF 8 0 0 ((l.drop p).take (min l.length (p + 8) - p))).map fun q => (q.1, p + q.2) := by
  unfold getNum
  rw [if_pos (by omega)]
  have key : ∀ (f i acc : Nat) (m : List UInt8), getF f i acc m = getF f i acc (m.take f) := by
    intro f
    induction f with
    | zero => intros; rfl
    | succ f ih =>
      intro i acc m
      cases m with
      | nil => rfl
      | cons c m => rw [List.take_succ_cons]; simp only [getF]; rw [ih]
  rw [key 8 0 0 (l.drop (p : Int).toNat), key 8 0 0 ((l.drop p).take _), Int.toNat_natCast]
  congr 2
  rw [List.take_take]
  apply List.ext_getElem?
  intro i
  simp only [List.getElem?_take, List.getElem?_drop]
  by_cases h1 : i < 8
  · by_cases h2 : i < min 8 (min l.length (p + 8) - p)
    · rw [if_pos h1, if_pos h2]
    · rw [if_pos h1, if_neg h2, List.getElem?_eq_none (by omega)]
  · rw [if_neg h1, if_neg (by omega)]

theorem acc_lt {s c k : Nat} (hs : s < 128 ^ k) : s + (c % 128) * 128 ^ k < 128 ^ (k + 1) := by
  have h1 : c % 128 ≤ 127 := by omega
  have h2 := Nat.mul_le_mul_right (128 ^ k) h1
  rw [Nat.pow_succ]; omega
theorem pow_le_56 {k : Nat} (hk : k ≤ 8) : 128 ^ k ≤ 72057594037927936 := by
  have : 128 ^ k ≤ 128 ^ 8 := Nat.pow_le_pow_right (by omega) hk
  exact this
theorem or_acc {s c k : Nat} (hs : s < 128 ^ k) (hk : k < 8) : bits .or .i64 (s : Int) (wrap64 ((c : Int) % 128 * 2 ^ (7 * k))) = ((s + (c % 128) * 128 ^ k : Nat) : Int) := by
  have h1 := acc_lt (c := c) hs
  have h2 := pow_le_56 (k := k + 1) (by omega)
  have e1 : (c : Int) % 128 * 2 ^ (7 * k) = ((2 ^ (7 * k) * (c % 128) : Nat) : Int) := by
    rw [Int.natCast_mul, Int.natCast_pow]
    rw [Int.mul_comm]; rfl
  have e2 : (128 : Nat) ^ k = 2 ^ (7 * k) := by rw [Nat.pow_mul]
  rw [e2] at h1 hs ⊢
  have h3 : 2 ^ (7 * k) * (c % 128) < 2 ^ 63 := by
    have : s + c % 128 * 2 ^ (7 * k) < 72057594037927936 := Nat.lt_of_lt_of_le h1 (by rw [Nat.pow_succ] at h2 ⊢; exact h2)
    rw [Nat.mul_comm]; omega
  rw [e1, IntWalk.wrap64_in _ ⟨by omega, by omega⟩]
  have h4 := (bits_nat .i64 63 (by decide) (by intro n h0 h1; exact IntWalk.i64_in n ⟨by omega, by omega⟩) s (2 ^ (7 * k) * (c % 128)) (by have := Nat.pow_le_pow_right (n := 2) (by omega) (show 7 * k ≤ 49 by omega); omega) h3).2
  rw [h4, Nat.or_comm, ← Nat.two_pow_add_eq_or_of_lt hs, Nat.mul_comm, Nat.add_comm]

set_option maxRecDepth 100000 in
/-- `string(b)`. -/
theorem str_run (w : World) (a : Option Addr) (l : List UInt8) (n cap : Nat) (hn : l.length = n) (hA : At w a l) : (convert 70 9 (.slice a n cap)).run Tryd.prog w = .ok (.string ⟨l.toArray⟩) w := by
  subst hn
  have hd : Tryd.prog.underlying 9 = some .string := by kernel_rfl
  cases a with
  | none =>
    cases l with
    | nil => exact run_convert_bytes_nil w _ _ sliceB u8T 0 cap _ hd
    | cons c l => have := (hA 0 (by simp)).1; simp at this
  | some x =>
    have hl : (loadCells x l.length).run Tryd.prog w = .ok ((l.map fun c => (c.toNat : Int)).map (Value.int .u8)).toArray w := by
      have := run_loadCells_list (P := Tryd.prog) w x ((l.map fun c => (c.toNat : Int)).map (Value.int .u8)) (fun j v hj => by
        simp only [List.getElem?_map, Option.map_eq_some_iff] at hj
        obtain ⟨z, ⟨c, hc, rfl⟩, rfl⟩ := hj
        obtain ⟨hk, rfl⟩ := List.getElem?_eq_some_iff.1 hc
        exact (hA j hk).2)
      simpa using this
    rw [run_convert_bytes_string w _ _ _ _ _ cap sliceB u8T hd, run_bytesToString w _ _ cap _ hl, foldl_push_bytes]
    have e0 : (ByteArray.empty.data : Array UInt8) = #[] := rfl
    have e1 : ((ByteArray.empty.data : Array UInt8) ++ ((l.map fun c => (c.toNat : Int)).map fun n => UInt8.ofNat n.toNat).toArray) = l.toArray := by rw [e0]; simp [Function.comp_def]
    exact congrArg (fun d : Array UInt8 => (Result.ok (Value.string ⟨d⟩) w : Result Value)) e1

def res3s : Option (List UInt8 × Nat) → Value
  | some p => .tuple #[.string ⟨p.1.toArray⟩, .int .i64 (p.2 : Int), .bool true]
  | none => .tuple #[.string ByteArray.empty, .int .i64 0, .bool false]

end Go.Proofs.YtjfbmgndekfglaaDoor

namespace Go.Proofs.YtjfbmgndekfglaaDoor
set_option linter.unusedVariables false
set_option linter.unusedSimpArgs false
open Go.RowKit

def numOf (o : Option (Nat × Nat)) : Int := match o with | some p => (p.1 : Int) | none => 0
def nextOf (o : Option (Nat × Nat)) : Int := match o with | some p => (p.2 : Int) | none => 0
theorem res3_eq (o : Option (Nat × Nat)) : res3 o = .tuple #[.int .i64 (numOf o), .int .i64 (nextOf o), .bool o.isSome] := by cases o <;> rfl

/-- What a reader of lists leaves. -/
def ListPost (o : Option (List Int × Nat)) (B : Nat) (e : Ending) (w' : World) : Prop :=
  match o with
  | some p => ∃ v, e = .returned (.tuple #[v, .int .i64 (p.2 : Int), .bool true]) ∧ OwnG eI w' B v p.1
  | none => e = .returned (.tuple #[.slice none 0 0, .int .i64 0, .bool false])

/-- The three variables that the closure holds. -/
structure Boxes (w : World) (B : Nat) (a : Option Addr) (n cap : Nat) (x : Int) (ok : Bool) : Prop where
  c0 : w.cell? ⟨B, 0, none⟩ = some (.slice a n cap)
  c1 : w.cell? ⟨B + 1, 0, none⟩ = some (.int .i64 x)
  c2 : w.cell? ⟨B + 1 + 1, 0, none⟩ = some (.bool ok)
  f1 : w.frozen? ⟨B + 1, 0, none⟩ = false
  f2 : w.frozen? ⟨B + 1 + 1, 0, none⟩ = false
  lt : B + 1 + 1 < w.heap.size
theorem Boxes.below {w w' : World} {B : Nat} {a : Option Addr} {n cap : Nat} {x : Int} {ok : Bool} (h : Boxes w B a n cap x ok) (hb : Below (B + 1 + 1 + 1) w w') : Boxes w' B a n cap x ok :=
  ⟨(hb.cell (p := ⟨B, 0, none⟩) (by simp <;> omega)).trans h.c0, (hb.cell (p := ⟨B + 1, 0, none⟩) (by simp <;> omega)).trans h.c1, (hb.cell (p := ⟨B + 1 + 1, 0, none⟩) (by simp <;> omega)).trans h.c2,
    (hb.frozen (p := ⟨B + 1, 0, none⟩) (by simp <;> omega)).trans h.f1, (hb.frozen (p := ⟨B + 1 + 1, 0, none⟩) (by simp <;> omega)).trans h.f2, Nat.lt_of_lt_of_le h.lt hb.size⟩
theorem cell_set {w : World} {p : Addr} {v u : Value} (h : w.cell? p = some v) : (w.setCell p u).cell? p = some u := by
  obtain ⟨b, o, s⟩ := p
  unfold World.cell? at h
  simp only at h
  split at h
  · rename_i c el fr heq
    split at h
    · cases h
    · rename_i hs
      simp only [World.setCell, World.cell?, Array.getElem?_modify, heq, if_true, Option.map_some, hs]
      have := (Array.getElem?_eq_some_iff.1 h).1
      simp [this]
  · cases h
theorem Boxes.set {w : World} {B : Nat} {a : Option Addr} {n cap : Nat} {x : Int} {ok : Bool} (h : Boxes w B a n cap x ok) (y : Int) (k : Bool) :
    Boxes ((w.setCell ⟨B + 1, 0, none⟩ (.int .i64 y)).setCell ⟨B + 1 + 1, 0, none⟩ (.bool k)) B a n cap y k := by
  have g2 : (w.setCell ⟨B + 1, 0, none⟩ (.int .i64 y)).cell? ⟨B + 1 + 1, 0, none⟩ = some (.bool ok) := by
    rw [World.cell?_setCell_far _ _ _ _ (by simp <;> omega)]; exact h.c2
  refine ⟨?_, ?_, cell_set g2, ?_, ?_, by simpa [World.setCell] using h.lt⟩
  · rw [World.cell?_setCell_far _ _ _ _ (by simp <;> omega), World.cell?_setCell_far _ _ _ _ (by simp <;> omega)]; exact h.c0
  · rw [World.cell?_setCell_far _ _ _ _ (by simp <;> omega)]; exact cell_set h.c1
  · rw [World.frozen?_setCell, World.frozen?_setCell]; exact h.f1
  · rw [World.frozen?_setCell, World.frozen?_setCell]; exact h.f2
theorem two_sets {w : World} {B C : Nat} (u v : Value) (hC : C ≤ B) : Below C w ((w.setCell ⟨B + 1, 0, none⟩ u).setCell ⟨B + 1 + 1, 0, none⟩ v) :=
  ((Below.refl _ _).setCell (p := ⟨B + 1, 0, none⟩) (by simp; omega) _).setCell (p := ⟨B + 1 + 1, 0, none⟩) (by simp; omega) _
theorem OwnG.two_sets {α : Type} {e : Elt α} {w : World} {B : Nat} {v : Value} {l : List α} (h : OwnG e w (B + 1 + 1 + 1) v l) (u z : Value) :
    OwnG e ((w.setCell ⟨B + 1, 0, none⟩ u).setCell ⟨B + 1 + 1, 0, none⟩ z) (B + 1 + 1 + 1) v l :=
  ownsRow_setCell_below (ownsRow_setCell_below h (by simp) _) (by simp) _

theorem getItems_step {l : List UInt8} {m x : Nat} {o : Option (List Int × Nat)} (h : getItems l (m + 1) x = o) : ∀ p, getNum l x = some p → o = (getItems l m p.2).map fun q => ((p.1 : Int) :: q.1, q.2) := by
  rintro p hp; rw [← h, getItems, hp]; rfl

end Go.Proofs.YtjfbmgndekfglaaDoor

namespace Go.Proofs.YtjfbmgndekfglaaDoor
set_option linter.unusedVariables false
set_option linter.unusedSimpArgs false

/-- The first `k` digits, the last without its sign. -/
def pre : Nat → Nat → List UInt8
  | 0, _ => []
  | k + 1, n => if k = 0 then [UInt8.ofNat (n % 128)] else UInt8.ofNat (n % 128 + 128) :: pre k (n / 128)
theorem pre_len : ∀ k n, (pre k n).length = k
  | 0, _ => rfl
  | k + 1, n => by
    rw [pre]; split
    · subst_vars; rfl
    · rw [List.length_cons, pre_len k]
theorem div_pow (n k : Nat) : n / 128 / 128 ^ k = n / 128 ^ (k + 1) := by rw [Nat.div_div_eq_div_mul, Nat.pow_succ, Nat.mul_comm]
theorem div_pow' (n k : Nat) : n / 128 ^ k / 128 = n / 128 ^ (k + 1) := by rw [Nat.div_div_eq_div_mul, Nat.pow_succ]
theorem pre_last : ∀ k n (h : k < (pre (k + 1) n).length), (pre (k + 1) n)[k] = UInt8.ofNat (n / 128 ^ k % 128)
  | 0, n, h => by simp [pre]
  | k + 1, n, h => by
    have e : pre (k + 1 + 1) n = UInt8.ofNat (n % 128 + 128) :: pre (k + 1) (n / 128) := by rw [pre, if_neg (by omega)]
    have := pre_last k (n / 128) (by rw [pre_len]; omega)
    simp only [e, List.getElem_cons_succ, this, div_pow]
theorem pre_step : ∀ k n, (pre (k + 1) n).set k (UInt8.ofNat (n / 128 ^ k % 128 + 128)) ++ [UInt8.ofNat (n / 128 ^ (k + 1) % 128)] = pre (k + 2) n
  | 0, n => by simp [pre]
  | k + 1, n => by
    have e : pre (k + 1 + 1) n = UInt8.ofNat (n % 128 + 128) :: pre (k + 1) (n / 128) := by rw [pre, if_neg (by omega)]
    have e2 : pre (k + 1 + 2) n = UInt8.ofNat (n % 128 + 128) :: pre (k + 2) (n / 128) := by rw [pre, if_neg (by omega)]
    rw [e, e2, List.set_cons_succ, List.cons_append, ← pre_step k (n / 128), div_pow, div_pow]
theorem pre_num : ∀ k f n, n < 128 ^ (k + 1) → (k = 0 ∨ 128 ^ k ≤ n) → pre (k + 1) n = numF (k + 1 + f) n
  | 0, f, n, h, _ => by
    simp at h
    rw [show 0 + 1 + f = f + 1 by omega, numF, if_pos h, pre, if_pos rfl, Nat.mod_eq_of_lt h]
  | k + 1, f, n, h, h2 => by
    have hp : 0 < 128 ^ k := Nat.pow_pos (by omega)
    have h3 : 128 ^ (k + 1) ≤ n := by omega
    have h4 : 128 ≤ 128 ^ (k + 1) := by rw [Nat.pow_succ]; omega
    rw [show k + 1 + 1 + f = (k + 1 + f) + 1 by omega, numF, if_neg (by omega), pre, if_neg (by omega)]
    congr 1
    apply pre_num k f
    · rw [Nat.pow_succ] at h
      exact Nat.div_lt_of_lt_mul (by rw [Nat.mul_comm]; exact h)
    · right
      rw [Nat.pow_succ] at h3
      exact (Nat.le_div_iff_mul_le (by omega)).2 h3
theorem numF_short : ∀ f j n, n < 128 ^ (j + 1) → (numF f n).length ≤ j + 1
  | 0, _, _, _ => by simp [numF]
  | f + 1, 0, n, h => by
    simp at h
    rw [numF, if_pos h]; simp
  | f + 1, j + 1, n, h => by
    rw [numF]; split
    · simp
    · rw [List.length_cons]
      have := numF_short f j (n / 128) (by
        rw [Nat.pow_succ] at h
        exact Nat.div_lt_of_lt_mul (by rw [Nat.mul_comm]; exact h))
      omega
/-- The length of a number's bytes tells whether it was put so. -/
theorem codeNum_minimal {s c k : Nat} (hs : s < 128 ^ k) (hc : c < 128) (hk : k < 8) :
    (codeNum ((s + c * 128 ^ k : Nat) : Int)).length = k + 1 ↔ ¬ ((c = 0 ∧ 0 < k) ∨ 9007199254740991 < s + c * 128 ^ k) := by
  by_cases hbig : 9007199254740991 < s + c * 128 ^ k
  · rw [codeNum_no (.inr (by omega))]
    simp [hbig]
  · rw [codeNum_yes (by omega)]
    by_cases h0 : c = 0 ∧ 0 < k
    · obtain ⟨rfl, hk0⟩ := h0
      obtain ⟨j, rfl⟩ : ∃ j, k = j + 1 := ⟨k - 1, by omega⟩
      have := numF_short 8 j s hs
      rw [Nat.zero_mul, Nat.add_zero]
      constructor
      · intro h; omega
      · intro h; exact absurd (.inl ⟨rfl, hk0⟩) h
    · have h1 : s + c * 128 ^ k < 128 ^ (k + 1) := by
        have h2 := Nat.mul_le_mul_right (128 ^ k) (show c ≤ 127 by omega)
        rw [Nat.pow_succ]; omega
      have h2 : k = 0 ∨ 128 ^ k ≤ s + c * 128 ^ k := by
        rcases Nat.eq_zero_or_pos k with h | h
        · exact .inl h
        · right
          have : 1 * 128 ^ k ≤ c * 128 ^ k := Nat.mul_le_mul_right _ (by omega)
          omega
      have h3 := pre_num k (7 - k) _ h1 h2
      rw [show k + 1 + (7 - k) = 8 by omega] at h3
      rw [← h3, pre_len]
      constructor
      · intro _ h; rcases h with h | h
        · exact h0 h
        · exact hbig h
      · intro _; rfl

theorem toNat_dig {m : Nat} (h : m < 256) : (UInt8.ofNat m).toNat = m := by rw [UInt8.toNat_ofNat']; omega
theorem getF_num (R : List UInt8) : ∀ (f i acc m : Nat), m < 128 ^ (f + 1) → (0 < m ∨ i = 0) → acc + m * 128 ^ i ≤ 9007199254740991 →
    getF (f + 1) i acc (numF (f + 1) m ++ R) = some (acc + m * 128 ^ i, i + (numF (f + 1) m).length) := by
  intro f
  induction f with
  | zero =>
    intro i acc m hm h0 hb
    simp at hm
    rw [numF, if_pos hm]
    simp only [List.cons_append, List.nil_append, getF, toNat_dig (show m < 256 by omega)]
    rw [if_neg (by omega), Nat.mod_eq_of_lt hm, if_neg (by omega)]; simp
  | succ f ih =>
    intro i acc m hm h0 hb
    rw [numF]
    by_cases h1 : m < 128
    · rw [if_pos h1]
      simp only [List.cons_append, List.nil_append, getF, toNat_dig (show m < 256 by omega)]
      rw [if_neg (by omega), Nat.mod_eq_of_lt h1, if_neg (by omega)]; simp
    · rw [if_neg h1]
      have hd : m % 128 + 128 < 256 := by omega
      have e1 : (m % 128 + 128) % 128 = m % 128 := by omega
      have e2 : acc + m % 128 * 128 ^ i + m / 128 * 128 ^ (i + 1) = acc + m * 128 ^ i := by
        rw [Nat.pow_succ, Nat.mul_comm (128 ^ i) 128, ← Nat.mul_assoc, Nat.add_assoc, ← Nat.add_mul]
        congr 2; omega
      have h3 := ih (i + 1) (acc + m % 128 * 128 ^ i) (m / 128) (by
        rw [Nat.pow_succ] at hm
        exact Nat.div_lt_of_lt_mul (by rw [Nat.mul_comm]; exact hm)) (.inl (by omega)) (by rw [e2]; exact hb)
      rw [e2] at h3
      rw [List.cons_append, getF, toNat_dig hd, if_pos (by omega), e1, h3, List.length_cons]
      congr 2; omega
theorem isNum_nat {n : Int} (h : isNum n = true) : ∃ m : Nat, n = m ∧ m ≤ 9007199254740991 := by
  simp [isNum] at h
  exact ⟨n.toNat, by omega, by omega⟩
/-- What was put is read again. -/
theorem getNum_put (P R : List UInt8) (n : Int) (h : isNum n = true) : getNum (P ++ codeNum n ++ R) (P.length : Int) = some (n.toNat, P.length + (codeNum n).length) := by
  obtain ⟨m, rfl, hm⟩ := isNum_nat h
  have hlen : 0 < (codeNum (m : Int)).length := by rw [codeNum_yes hm]; exact numF_pos 7 m
  unfold getNum
  rw [if_pos (by simp; omega)]
  rw [Int.toNat_natCast, List.append_assoc, List.drop_left, codeNum_yes hm, getF_num R 7 0 0 m (by rw [show (128 : Nat) ^ (7 + 1) = 72057594037927936 from by decide]; omega) (.inr rfl) (by simpa using hm)]
  simp
theorem getF_back : ∀ (f i acc : Nat) (l : List UInt8) (n c : Nat), getF f i acc l = some (n, c) → i < c ∧ ∃ m, n = acc + m * 128 ^ i ∧ l.take (c - i) = numF f m ∧ m < 128 ^ f ∧ (0 < m ∨ i = 0)
  | 0, _, _, _, _, _, h => by simp [getF] at h
  | f + 1, _, _, [], _, _, h => by simp [getF] at h
  | f + 1, i, acc, x :: l, n, c, h => by
    have hx := x.toNat_lt
    rw [getF] at h
    by_cases h1 : 128 ≤ x.toNat
    · rw [if_pos h1] at h
      obtain ⟨hc, m, h2, h3, h4, h5⟩ := getF_back f (i + 1) _ l n c h
      refine ⟨by omega, m * 128 + x.toNat % 128, ?_, ?_, ?_, ?_⟩
      · rw [h2, Nat.pow_succ, Nat.add_mul, Nat.mul_assoc m 128, Nat.mul_comm 128 (128 ^ i)]; omega
      · have hm : 0 < m := by
          rcases h5 with h5 | h5
          · exact h5
          · omega
        rw [show c - i = (c - (i + 1)) + 1 by omega, List.take_succ_cons, h3, numF, if_neg (by omega)]
        have e1 : (m * 128 + x.toNat % 128) % 128 + 128 = x.toNat := by omega
        have e2 : (m * 128 + x.toNat % 128) / 128 = m := by omega
        rw [e1, e2, UInt8.ofNat_toNat]
      · rw [Nat.pow_succ]; omega
      · have hm : 0 < m := by
          rcases h5 with h5 | h5
          · exact h5
          · omega
        left; omega
    · rw [if_neg h1] at h
      split at h
      · cases h
      · rename_i hn
        simp only [Option.some.injEq, Prod.mk.injEq] at h
        obtain ⟨rfl, rfl⟩ := h
        have e : x.toNat % 128 = x.toNat := by omega
        rw [e]
        refine ⟨by omega, x.toNat, rfl, ?_, ?_, by omega⟩
        · rw [show i + 1 - i = 1 by omega, numF, if_pos (by omega), UInt8.ofNat_toNat]; rfl
        · have : 128 ^ 1 ≤ 128 ^ (f + 1) := Nat.pow_le_pow_right (by omega) (by omega)
          omega
/-- What is read is what would be put. -/
theorem getNum_back {l : List UInt8} {n x : Nat} (h : getNum l 0 = some (n, x)) : codeNum n = l.take x := by
  obtain ⟨hn, _, _, _⟩ := getNum_some h
  unfold getNum at h
  split at h
  · simp only [Option.map_eq_some_iff] at h
    obtain ⟨⟨n', c⟩, h1, h2⟩ := h
    simp only [Prod.mk.injEq] at h2
    obtain ⟨rfl, rfl⟩ := h2
    obtain ⟨_, m, h3, h4, _, _⟩ := getF_back _ _ _ _ _ _ h1
    simp at h3 h4
    subst h3
    rw [codeNum_yes hn, ← h4]; simp
  · cases h
theorem numF_mono : ∀ f m n, m ≤ n → (numF f m).length ≤ (numF f n).length
  | 0, _, _, _ => by simp [numF]
  | f + 1, m, n, h => by
    rw [numF, numF]
    split
    · split
      · simp
      · simp
    · rw [if_neg (by omega), List.length_cons, List.length_cons]
      have := numF_mono f (m / 128) (n / 128) (Nat.div_le_div_right h)
      omega
theorem codeNum_mono {m n : Int} (hm : isNum m = true) (hn : isNum n = true) (h : m ≤ n) : (codeNum m).length ≤ (codeNum n).length := by
  obtain ⟨a, rfl, ha⟩ := isNum_nat hm
  obtain ⟨b, rfl, hb⟩ := isNum_nat hn
  rw [codeNum_yes ha, codeNum_yes hb]
  exact numF_mono 8 a b (by omega)
theorem getItems_put (R : List UInt8) : ∀ (l : List Int) (P : List UInt8), l.all isNum = true → getItems (P ++ l.flatMap codeNum ++ R) l.length P.length = some (l, P.length + (l.flatMap codeNum).length)
  | [], P, _ => by simp [getItems]
  | x :: l, P, h => by
    rw [List.all_cons, Bool.and_eq_true] at h
    have h1 := getNum_put P (l.flatMap codeNum ++ R) x h.1
    have h2 := getItems_put R l (P ++ codeNum x) h.2
    have e1 : P ++ (x :: l).flatMap codeNum ++ R = P ++ codeNum x ++ (l.flatMap codeNum ++ R) := by simp [List.flatMap_cons]
    have e2 : P ++ codeNum x ++ (l.flatMap codeNum ++ R) = (P ++ codeNum x) ++ l.flatMap codeNum ++ R := by simp
    obtain ⟨m, rfl, hm⟩ := isNum_nat h.1
    rw [e1, List.length_cons, getItems, h1, Option.bind_some, e2]
    simp only [List.length_append] at h2 ⊢
    rw [h2, Option.map_some, List.flatMap_cons, List.length_append]
    simp; omega
theorem codeList_pos {l : List Int} (h : codeList l ≠ []) (hl : l.length ≤ 9007199254740991) : l.all isNum = true ∧ codeList l = codeNum l.length ++ l.flatMap codeNum ∧ isNum (l.length : Int) = true := by
  unfold codeList at h ⊢
  split at h
  · rename_i ha
    rw [if_pos ha]
    exact ⟨ha, rfl, by simp [isNum]; omega⟩
  · exact absurd rfl h
theorem getList_put (P R : List UInt8) (l : List Int) (many : Int) (ha : l.all isNum = true) (hb : isNum (l.length : Int) = true) :
    getList (P ++ (codeNum l.length ++ l.flatMap codeNum) ++ R) (P.length : Int) many = if many < (l.length : Int) then none else some (l, P.length + (codeNum l.length ++ l.flatMap codeNum).length) := by
  have h1 := getNum_put P (l.flatMap codeNum ++ R) (l.length : Int) hb
  have e1 : P ++ (codeNum l.length ++ l.flatMap codeNum) ++ R = P ++ codeNum l.length ++ (l.flatMap codeNum ++ R) := by simp
  have e2 : P ++ codeNum l.length ++ (l.flatMap codeNum ++ R) = (P ++ codeNum l.length) ++ l.flatMap codeNum ++ R := by simp
  have h2 := getItems_put R l (P ++ codeNum l.length) ha
  rw [e1, getList, h1, Option.bind_some]
  simp only [Int.toNat_natCast]
  split
  · rfl
  · rw [e2]
    simp only [List.length_append] at h2 ⊢
    rw [h2, Nat.add_assoc]
theorem getText_put (s R : List UInt8) (h : isNum (s.length : Int) = true) : getText (codeText s ++ R) 0 = some (s, (codeText s).length) := by
  have h1 := getNum_put [] (s ++ R) (s.length : Int) h
  simp only [List.nil_append, List.length_nil, Nat.zero_add] at h1
  have e1 : codeText s ++ R = codeNum s.length ++ (s ++ R) := by simp [codeText]
  have h1' : getNum (codeText s ++ R) 0 = some (s.length, (codeNum s.length).length) := by rw [e1]; simpa using h1
  rw [getText, h1', Option.bind_some]
  have hle : s.length ≤ (codeText s ++ R).length - (codeNum s.length).length := by simp [codeText]
  simp only
  rw [if_pos hle, e1, List.drop_left, List.take_left]
  simp [codeText]

end Go.Proofs.YtjfbmgndekfglaaDoor

namespace Go.Proofs.YtjfbmgndekfglaaDoor
set_option linter.unusedVariables false
set_option linter.unusedSimpArgs false
open Go.RowKit

end Go.Proofs.YtjfbmgndekfglaaDoor

namespace Go.Proofs.YtjfbmgndekfglaaDoor
set_option linter.unusedVariables false
set_option linter.unusedSimpArgs false
open Go.RowKit

theorem getNum_at' {l : List UInt8} {p : Nat} (h : p < l.length) : getNum l p = (getF 8 0 0 (l.drop p)).map fun q => (q.1, p + q.2) := by
  unfold getNum
  rw [if_pos (by omega)]; rfl

end Go.Proofs.YtjfbmgndekfglaaDoor
