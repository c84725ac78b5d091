/- Messages and their bytes; lists alone. -/
import Derived.Test.YtjibmbejfpdifaaLogs
namespace Go.Proofs.Ytjibmbejfpdifaa
set_option linter.unusedVariables false
set_option linter.unusedSimpArgs false
open Go.RowKit

theorem getItems_back : ∀ (k : Nat) (p : List UInt8) (x : Nat) {l : List Int} {y : Nat}, x ≤ p.length → getItems p k x = some (l, y) → l.length = k ∧ x ≤ y ∧ y ≤ p.length ∧ l.flatMap codeNum = (p.drop x).take (y - x) ∧ l.all isNum = true
  | 0, p, x, l, y, hx, h => by
    simp only [getItems, Option.some.injEq, Prod.mk.injEq] at h
    obtain ⟨rfl, rfl⟩ := h
    simp [hx]
  | k + 1, p, x, l, y, hx, h => by
    rw [getItems] at h
    rcases hg : getNum p x with _ | ⟨n, z⟩
    · rw [hg] at h; simp at h
    · rw [hg] at h
      simp only [Option.bind_some] at h
      rcases hi : getItems p k z with _ | ⟨q, t⟩
      · rw [hi] at h; simp at h
      · rw [hi] at h
        simp only [Option.map_some, Option.some.injEq, Prod.mk.injEq] at h
        obtain ⟨rfl, rfl⟩ := h
        have hs := getNum_some hg
        obtain ⟨c1, c2⟩ := getNum_code hg
        obtain ⟨i1, i2, i3, i4, i5⟩ := getItems_back k p z (by omega) hi
        refine ⟨by simp [i1], by omega, i3, ?_, ?_⟩
        · rw [List.flatMap_cons, c1, i4]
          have e : t - x = (z - x) + (t - z) := by omega
          rw [e, List.take_add, List.drop_drop]
          congr 3
          omega
        · rw [List.all_cons, i5, Bool.and_true]
          simp [isNum]; omega
theorem getList_back {p : List UInt8} {many : Int} {l : List Int} {y : Nat} (h : getList p 0 many = some (l, y)) : y ≤ p.length ∧ l.all isNum = true ∧ codeList l = p.take y ∧ (l.length : Int) ≤ many := by
  unfold getList at h
  rcases hg : getNum p 0 with _ | ⟨n, z⟩
  · rw [hg] at h; simp at h
  · rw [hg] at h
    simp only [Option.bind_some] at h
    split at h
    · cases h
    rename_i hm
    have hs := getNum_some hg
    have hg' : getNum p (0 : Nat) = some (n, z) := hg
    obtain ⟨c1, c2⟩ := getNum_code hg'
    obtain ⟨i1, i2, i3, i4, i5⟩ := getItems_back n p z (by omega) h
    refine ⟨i3, i5, ?_, by omega⟩
    unfold codeList
    rw [if_pos i5, i1, c1, i4]
    have e : y = (z - 0) + (y - z) := by omega
    rw [List.drop_zero]
    conv => rhs; rw [e, List.take_add]
    rw [Nat.sub_zero]

/-- A message. -/
structure Msg where
  node : Int
  kind : Int
  term : Int
  gen : Int
  job : Int
  inc : Int
  version : Int
  epoch : Int
  until_ : Int
  mode : Int
  work : Int
  deriving DecidableEq
def Msg.nums (m : Msg) : List Int := [m.node, m.kind, m.term, m.gen, m.job, m.inc, m.version, m.epoch, m.until_, m.mode, m.work]
def Msg.of (l : List Int) : Msg := ⟨l.getD 0 0, l.getD 1 0, l.getD 2 0, l.getD 3 0, l.getD 4 0, l.getD 5 0, l.getD 6 0, l.getD 7 0, l.getD 8 0, l.getD 9 0, l.getD 10 0⟩
theorem Msg.numsLen2 (m : Msg) : m.nums.length = 11 := rfl
theorem Msg.of_nums (m : Msg) : Msg.of m.nums = m := rfl
theorem Msg.nums_of {l : List Int} (h : l.length = 11) : (Msg.of l).nums = l := by
  match l, h with
  | [_, _, _, _, _, _, _, _, _, _, _], _ => rfl
def numOk (n : Int) : Bool := decide (0 ≤ n) && decide (n ≤ 1000000)
def Msg.right (m : Msg) : Bool := m.nums.all numOk && (decide (m.node < 6) && (decide (1 ≤ m.kind) && decide (m.kind ≤ 6)))
theorem Msg.right_nums {m : Msg} (h : m.right = true) : m.nums.all isNum = true ∧ codeList m.nums = codeNum 11 ++ m.nums.flatMap codeNum := by
  unfold Msg.right at h
  rw [Bool.and_eq_true] at h
  have h1 : m.nums.all isNum = true := by
    rw [List.all_eq_true] at h ⊢
    intro x hx
    have := h.1 x hx
    simp [numOk] at this
    simp [isNum]; omega
  refine ⟨h1, ?_⟩
  unfold codeList
  rw [if_pos h1]; rfl
/-- A message's bytes. -/
def putM (m : Msg) : List UInt8 := if m.right = true then frameB (codeList m.nums) else []
/-- The message of bytes, by net.Get. -/
def getM (b : List UInt8) : Option Msg :=
  if (fGet b 0).2.2 = 1 ∧ (fGet b 0).2.1 = b.length then
    match getList (fGet b 0).1 0 11 with
    | none => none
    | some q => if q.2 = (fGet b 0).1.length ∧ q.1.length = 11 ∧ (Msg.of q.1).right = true then some (Msg.of q.1) else none
  else none
/-- By the document. -/
def rgetM (b : List UInt8) : Option Msg :=
  if (fGet b 0).2.2 = 1 then
    match getList (fGet b 0).1 0 11 with
    | none => none
    | some q => if q.1.length = 11 ∧ putM (Msg.of q.1) = b then some (Msg.of q.1) else none
  else none
theorem num_small {n : Int} (h : numOk n = true) : (codeNum n).length ≤ 3 := by
  simp [numOk] at h
  obtain ⟨k, rfl⟩ := Int.eq_ofNat_of_zero_le h.1
  rw [codeNum_yes (by omega)]
  have e1 : ∀ f m : Nat, m < 128 → (numF (f + 1) m).length = 1 := by
    intro f m hm; rw [numF, if_pos hm]; rfl
  rw [numF]
  split
  · simp
  · rw [numF]
    split
    · simp
    · rw [List.length_cons, List.length_cons, e1 5 _ (by omega)]; omega
theorem Msg.codeLen {m : Msg} (h : m.right = true) : 12 ≤ (codeList m.nums).length ∧ (codeList m.nums).length ≤ 34 := by
  rw [(Msg.right_nums h).2]
  unfold Msg.right at h
  rw [Bool.and_eq_true, List.all_eq_true] at h
  have hs : ∀ x ∈ m.nums, 1 ≤ (codeNum x).length ∧ (codeNum x).length ≤ 3 := by
    intro x hx
    refine ⟨?_, num_small (h.1 x hx)⟩
    rcases Nat.eq_zero_or_pos (codeNum x).length with h0 | h0
    · rw [List.length_eq_zero_iff, codeNum_nil] at h0
      have := h.1 x hx
      simp [numOk] at this
      simp [isNum] at h0; omega
    · exact h0
  have hb : ∀ l : List Int, (∀ x ∈ l, 1 ≤ (codeNum x).length ∧ (codeNum x).length ≤ 3) → l.length ≤ (l.flatMap codeNum).length ∧ (l.flatMap codeNum).length ≤ 3 * l.length := by
    intro l
    induction l with
    | nil => intro _; simp
    | cons x l ih =>
      intro hl
      have h1 := hl x (by simp)
      have h2 := ih (fun y hy => hl y (by simp [hy]))
      rw [List.flatMap_cons, List.length_append, List.length_cons]
      omega
  have := hb m.nums hs
  have e : m.nums.length = 11 := rfl
  have e11 : (codeNum 11).length = 1 := by rfl
  rw [List.length_append]
  omega
theorem getM_put {m : Msg} (h : m.right = true) : getM (putM m) = some m := by
  obtain ⟨c1, c2⟩ := Msg.codeLen h
  obtain ⟨n1, n2⟩ := Msg.right_nums h
  have hf := fGet_put [] [] (p := codeList m.nums) (by omega) (by omega)
  simp only [List.nil_append, List.append_nil, List.length_nil, Nat.zero_add] at hf
  have hf' : fGet (frameB (codeList m.nums)) 0 = (codeList m.nums, ((frameB (codeList m.nums)).length : Int), 1) := hf
  have hl := getList_put [] [] m.nums 11 n1 (by simp [isNum, Msg.numsLen2])
  simp only [List.nil_append, List.append_nil, List.length_nil, Nat.zero_add] at hl
  have hl' : getList (codeList m.nums) 0 11 = some (m.nums, (codeList m.nums).length) := by
    rw [n2]
    have e : (m.nums.length : Int) = 11 := rfl
    rw [e] at hl
    exact hl
  unfold getM putM
  rw [if_pos h, hf']
  simp only [and_self, if_true, hl', Msg.of_nums, Msg.numsLen2, h]
theorem getM_right {b : List UInt8} {m : Msg} (h : getM b = some m) : m.right = true ∧ putM m = b := by
  unfold getM at h
  split at h
  · rename_i hw
    rcases hl : getList (fGet b 0).1 0 11 with _ | q
    · rw [hl] at h; cases h
    · rw [hl] at h
      simp only [] at h
      split at h
      · rename_i hq
        simp only [Option.some.injEq] at h
        subst h
        obtain ⟨g1, g2, g3, g4⟩ := getList_back (l := q.1) (y := q.2) (by rw [hl])
        refine ⟨hq.2.2, ?_⟩
        unfold putM
        rw [if_pos hq.2.2, Msg.nums_of hq.2.1, g3, hq.1, List.take_length]
        have hf := fGet_frame (l := b) (k := 0) hw.1
        have hw2 : (fGet b ((0 : Nat) : Int)).2.1 = b.length := hw.2
        rw [hf.2.2.1] at hw2
        have := hf.2.2.2.1
        rw [List.drop_zero, List.take_of_length_le (by omega)] at this
        exact this.symm
      · cases h
  · cases h
theorem rgetM_is (b : List UInt8) : rgetM b = getM b := by
  rcases hg : getM b with _ | m
  · -- the document has none, either
    unfold rgetM
    split
    · rename_i hw
      rcases hl : getList (fGet b 0).1 0 11 with _ | q
      · rfl
      · simp only []
        rw [if_neg]
        rintro ⟨h1, h2⟩
        have hr : (Msg.of q.1).right = true := by
          rcases hr : (Msg.of q.1).right with _ | _
          · unfold putM at h2
            rw [hr, if_neg (by simp)] at h2
            subst h2
            unfold fGet at hw
            simp at hw
          · rfl
        have := getM_put hr
        rw [h2, hg] at this
        cases this
    · rfl
  · obtain ⟨h1, h2⟩ := getM_right hg
    unfold getM at hg
    split at hg
    · rename_i hw
      unfold rgetM
      rw [if_pos hw.1]
      rcases hl : getList (fGet b 0).1 0 11 with _ | q
      · rw [hl] at hg; cases hg
      · rw [hl] at hg
        simp only [] at hg ⊢
        split at hg
        · rename_i hq
          simp only [Option.some.injEq] at hg
          subst hg
          rw [if_pos ⟨hq.2.1, h2⟩]
        · cases hg
    · cases hg

end Go.Proofs.Ytjibmbejfpdifaa
