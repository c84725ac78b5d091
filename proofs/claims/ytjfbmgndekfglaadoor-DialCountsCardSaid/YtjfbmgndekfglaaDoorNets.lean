/- Messages and their bytes; lists alone. Messages: the walks of net.row, Right, Put and the document's. Messages: net.Get and the document's. Messages: the document's Get. Messages on their way: Net's walks. Messages on their way: Drop, Deliver, Twice, Flip. Messages on their way: Twice, Flip. Messages on their way: List. A net as one thing, and what its methods do of it. -/
import Derived.Test.YtjfbmgndekfglaaDoorLogs
import Derived.Laws.Rows
import Derived.Laws.ResultCell
import Derived.Test.YtjfbmgndekfglaaDoorOpens
import Derived.Test.YtjfbmgndekfglaaDoorOwnC
import Derived.Test.YtjfbmgndekfglaaDoorHeld
namespace Go.Proofs.YtjfbmgndekfglaaDoor
set_option linter.unusedVariables false
set_option linter.unusedSimpArgs false
open Go.RowKit

theorem getItems_back : ∀ (k : Nat) (p : List UInt8) (x : Nat) {l : List Int} {y : Nat}, x ≤ p.length → getItems p k x = some (l, y) → l.length = k ∧ x ≤ y ∧ y ≤ p.length ∧ l.flatMap codeNum = (p.drop x).take (y - x) ∧ l.all isNum = true
  | 0, p, x, l, y, hx, h => by
    simp only [getItems, Option.some.injEq, Prod.mk.injEq] at h
    obtain ⟨rfl, rfl⟩ := h
    simp [hx]
  | k + 1, p, x, l, y, hx, h => by
    rw [getItems] at h
    rcases hg : getNum p x with _ | ⟨n, z⟩
    · rw [hg] at h; simp at h
    · rw [hg] at h
      simp only [Option.bind_some] at h
      rcases hi : getItems p k z with _ | ⟨q, t⟩
      · rw [hi] at h; simp at h
      · rw [hi] at h
        simp only [Option.map_some, Option.some.injEq, Prod.mk.injEq] at h
        obtain ⟨rfl, rfl⟩ := h
        have hs := getNum_some hg
        obtain ⟨c1, c2⟩ := getNum_code hg
        obtain ⟨i1, i2, i3, i4, i5⟩ := getItems_back k p z (by omega) hi
        refine ⟨by simp [i1], by omega, i3, ?_, ?_⟩
        · rw [List.flatMap_cons, c1, i4]
          have e : t - x = (z - x) + (t - z) := by omega
          rw [e, List.take_add, List.drop_drop]
          congr 3
          omega
        · rw [List.all_cons, i5, Bool.and_true]
          simp [isNum]; omega
theorem getList_back {p : List UInt8} {many : Int} {l : List Int} {y : Nat} (h : getList p 0 many = some (l, y)) : y ≤ p.length ∧ l.all isNum = true ∧ codeList l = p.take y ∧ (l.length : Int) ≤ many := by
  unfold getList at h
  rcases hg : getNum p 0 with _ | ⟨n, z⟩
  · rw [hg] at h; simp at h
  · rw [hg] at h
    simp only [Option.bind_some] at h
    split at h
    · cases h
    rename_i hm
    have hs := getNum_some hg
    have hg' : getNum p (0 : Nat) = some (n, z) := hg
    obtain ⟨c1, c2⟩ := getNum_code hg'
    obtain ⟨i1, i2, i3, i4, i5⟩ := getItems_back n p z (by omega) h
    refine ⟨i3, i5, ?_, by omega⟩
    unfold codeList
    rw [if_pos i5, i1, c1, i4]
    have e : y = (z - 0) + (y - z) := by omega
    rw [List.drop_zero]
    conv => rhs; rw [e, List.take_add]
    rw [Nat.sub_zero]

/-- A message. -/
structure Msg where
  node : Int
  kind : Int
  term : Int
  gen : Int
  job : Int
  inc : Int
  version : Int
  epoch : Int
  until_ : Int
  mode : Int
  work : Int
  deriving DecidableEq
def Msg.nums (m : Msg) : List Int := [m.node, m.kind, m.term, m.gen, m.job, m.inc, m.version, m.epoch, m.until_, m.mode, m.work]
def Msg.of (l : List Int) : Msg := ⟨l.getD 0 0, l.getD 1 0, l.getD 2 0, l.getD 3 0, l.getD 4 0, l.getD 5 0, l.getD 6 0, l.getD 7 0, l.getD 8 0, l.getD 9 0, l.getD 10 0⟩
theorem Msg.numsLen2 (m : Msg) : m.nums.length = 11 := rfl
theorem Msg.of_nums (m : Msg) : Msg.of m.nums = m := rfl
theorem Msg.nums_of {l : List Int} (h : l.length = 11) : (Msg.of l).nums = l := by
  match l, h with
  | [_, _, _, _, _, _, _, _, _, _, _], _ => rfl
def numOk (n : Int) : Bool := decide (0 ≤ n) && decide (n ≤ 1000000)
def Msg.right (m : Msg) : Bool := m.nums.all numOk && (decide (m.node < 6) && (decide (1 ≤ m.kind) && decide (m.kind ≤ 6)))
theorem Msg.right_nums {m : Msg} (h : m.right = true) : m.nums.all isNum = true ∧ codeList m.nums = codeNum 11 ++ m.nums.flatMap codeNum := by
  unfold Msg.right at h
  rw [Bool.and_eq_true] at h
  have h1 : m.nums.all isNum = true := by
    rw [List.all_eq_true] at h ⊢
    intro x hx
    have := h.1 x hx
    simp [numOk] at this
    simp [isNum]; omega
  refine ⟨h1, ?_⟩
  unfold codeList
  rw [if_pos h1]; rfl
/-- A message's bytes. -/
def putM (m : Msg) : List UInt8 := if m.right = true then frameB (codeList m.nums) else []
/-- The message of bytes, by net.Get. -/
def getM (b : List UInt8) : Option Msg :=
  if (fGet b 0).2.2 = 1 ∧ (fGet b 0).2.1 = b.length then
    match getList (fGet b 0).1 0 11 with
    | none => none
    | some q => if q.2 = (fGet b 0).1.length ∧ q.1.length = 11 ∧ (Msg.of q.1).right = true then some (Msg.of q.1) else none
  else none
/-- By the document. -/
def rgetM (b : List UInt8) : Option Msg :=
  if (fGet b 0).2.2 = 1 then
    match getList (fGet b 0).1 0 11 with
    | none => none
    | some q => if q.1.length = 11 ∧ putM (Msg.of q.1) = b then some (Msg.of q.1) else none
  else none
theorem num_small {n : Int} (h : numOk n = true) : (codeNum n).length ≤ 3 := by
  simp [numOk] at h
  obtain ⟨k, rfl⟩ := Int.eq_ofNat_of_zero_le h.1
  rw [codeNum_yes (by omega)]
  have e1 : ∀ f m : Nat, m < 128 → (numF (f + 1) m).length = 1 := by
    intro f m hm; rw [numF, if_pos hm]; rfl
  rw [numF]
  split
  · simp
  · rw [numF]
    split
    · simp
    · rw [List.length_cons, List.length_cons, e1 5 _ (by omega)]; omega
theorem Msg.codeLen {m : Msg} (h : m.right = true) : 12 ≤ (codeList m.nums).length ∧ (codeList m.nums).length ≤ 34 := by
  rw [(Msg.right_nums h).2]
  unfold Msg.right at h
  rw [Bool.and_eq_true, List.all_eq_true] at h
  have hs : ∀ x ∈ m.nums, 1 ≤ (codeNum x).length ∧ (codeNum x).length ≤ 3 := by
    intro x hx
    refine ⟨?_, num_small (h.1 x hx)⟩
    rcases Nat.eq_zero_or_pos (codeNum x).length with h0 | h0
    · rw [List.length_eq_zero_iff, codeNum_nil] at h0
      have := h.1 x hx
      simp [numOk] at this
      simp [isNum] at h0; omega
    · exact h0
  have hb : ∀ l : List Int, (∀ x ∈ l, 1 ≤ (codeNum x).length ∧ (codeNum x).length ≤ 3) → l.length ≤ (l.flatMap codeNum).length ∧ (l.flatMap codeNum).length ≤ 3 * l.length := by
    intro l
    induction l with
    | nil => intro _; simp
    | cons x l ih =>
      intro hl
      have h1 := hl x (by simp)
      have h2 := ih (fun y hy => hl y (by simp [hy]))
      rw [List.flatMap_cons, List.length_append, List.length_cons]
      omega
  have := hb m.nums hs
  have e : m.nums.length = 11 := rfl
  have e11 : (codeNum 11).length = 1 := by rfl
  rw [List.length_append]
  omega
theorem getM_put {m : Msg} (h : m.right = true) : getM (putM m) = some m := by
  obtain ⟨c1, c2⟩ := Msg.codeLen h
  obtain ⟨n1, n2⟩ := Msg.right_nums h
  have hf := fGet_put [] [] (p := codeList m.nums) (by omega) (by omega)
  simp only [List.nil_append, List.append_nil, List.length_nil, Nat.zero_add] at hf
  have hf' : fGet (frameB (codeList m.nums)) 0 = (codeList m.nums, ((frameB (codeList m.nums)).length : Int), 1) := hf
  have hl := getList_put [] [] m.nums 11 n1 (by simp [isNum, Msg.numsLen2])
  simp only [List.nil_append, List.append_nil, List.length_nil, Nat.zero_add] at hl
  have hl' : getList (codeList m.nums) 0 11 = some (m.nums, (codeList m.nums).length) := by
    rw [n2]
    have e : (m.nums.length : Int) = 11 := rfl
    rw [e] at hl
    exact hl
  unfold getM putM
  rw [if_pos h, hf']
  simp only [and_self, if_true, hl', Msg.of_nums, Msg.numsLen2, h]
theorem getM_right {b : List UInt8} {m : Msg} (h : getM b = some m) : m.right = true ∧ putM m = b := by
  unfold getM at h
  split at h
  · rename_i hw
    rcases hl : getList (fGet b 0).1 0 11 with _ | q
    · rw [hl] at h; cases h
    · rw [hl] at h
      simp only [] at h
      split at h
      · rename_i hq
        simp only [Option.some.injEq] at h
        subst h
        obtain ⟨g1, g2, g3, g4⟩ := getList_back (l := q.1) (y := q.2) (by rw [hl])
        refine ⟨hq.2.2, ?_⟩
        unfold putM
        rw [if_pos hq.2.2, Msg.nums_of hq.2.1, g3, hq.1, List.take_length]
        have hf := fGet_frame (l := b) (k := 0) hw.1
        have hw2 : (fGet b ((0 : Nat) : Int)).2.1 = b.length := hw.2
        rw [hf.2.2.1] at hw2
        have := hf.2.2.2.1
        rw [List.drop_zero, List.take_of_length_le (by omega)] at this
        exact this.symm
      · cases h
  · cases h
theorem rgetM_is (b : List UInt8) : rgetM b = getM b := by
  rcases hg : getM b with _ | m
  · -- the document has none, either
    unfold rgetM
    split
    · rename_i hw
      rcases hl : getList (fGet b 0).1 0 11 with _ | q
      · rfl
      · simp only []
        rw [if_neg]
        rintro ⟨h1, h2⟩
        have hr : (Msg.of q.1).right = true := by
          rcases hr : (Msg.of q.1).right with _ | _
          · unfold putM at h2
            rw [hr, if_neg (by simp)] at h2
            subst h2
            unfold fGet at hw
            simp at hw
          · rfl
        have := getM_put hr
        rw [h2, hg] at this
        cases this
    · rfl
  · obtain ⟨h1, h2⟩ := getM_right hg
    unfold getM at hg
    split at hg
    · rename_i hw
      unfold rgetM
      rw [if_pos hw.1]
      rcases hl : getList (fGet b 0).1 0 11 with _ | q
      · rw [hl] at hg; cases hg
      · rw [hl] at hg
        simp only [] at hg ⊢
        split at hg
        · rename_i hq
          simp only [Option.some.injEq] at hg
          subst hg
          rw [if_pos ⟨hq.2.1, h2⟩]
        · cases hg
    · cases hg

end Go.Proofs.YtjfbmgndekfglaaDoor

namespace Go.Proofs.YtjfbmgndekfglaaDoor
set_option linter.unusedVariables false
set_option linter.unusedSimpArgs false
open Go.RowKit

theorem getD_in {l : List Int} {k : Nat} (h : k < l.length) : l.getD k 0 = l[k] := by simp [List.getD, h]
/-- A message's cells. -/
def Msg.cs (m : Msg) : List Value := [.int .i64 m.node, .int .i64 m.kind, .int .i64 m.term, .int .i64 m.gen, .int .i64 m.job, .int .i64 m.inc, .int .i64 m.version, .int .i64 m.epoch, .int .i64 m.until_, .int .i64 m.mode, .int .i64 m.work]

theorem St.msg {w0 w : World} {l : List Thing} (S : St w0 w l) (k : Nat) {g : Nat} {T : TypeId} {m : Msg} (h : l[k]? = some (cellsT g T m.cs)) :
    w.cell? ⟨g, 0, none⟩ = some (.int .i64 m.node) ∧ w.cell? ⟨g, 1, none⟩ = some (.int .i64 m.kind) ∧ w.cell? ⟨g, 2, none⟩ = some (.int .i64 m.term) ∧ w.cell? ⟨g, 3, none⟩ = some (.int .i64 m.gen) ∧ w.cell? ⟨g, 4, none⟩ = some (.int .i64 m.job) ∧ w.cell? ⟨g, 5, none⟩ = some (.int .i64 m.inc) ∧ w.cell? ⟨g, 6, none⟩ = some (.int .i64 m.version) ∧ w.cell? ⟨g, 7, none⟩ = some (.int .i64 m.epoch) ∧ w.cell? ⟨g, 8, none⟩ = some (.int .i64 m.until_) ∧ w.cell? ⟨g, 9, none⟩ = some (.int .i64 m.mode) ∧ w.cell? ⟨g, 10, none⟩ = some (.int .i64 m.work) :=
  ⟨S.cell k h 0 rfl, S.cell k h 1 rfl, S.cell k h 2 rfl, S.cell k h 3 rfl, S.cell k h 4 rfl, S.cell k h 5 rfl, S.cell k h 6 rfl, S.cell k h 7 rfl, S.cell k h 8 rfl, S.cell k h 9 rfl, S.cell k h 10 rfl⟩
theorem Msg.cs_get (m : Msg) {k : Nat} (hk : k < m.nums.length) : m.cs[k]? = some (.int .i64 m.nums[k]) := by
  have hk' : k < 11 := hk
  rcases (show k = 0 ∨ k = 1 ∨ k = 2 ∨ k = 3 ∨ k = 4 ∨ k = 5 ∨ k = 6 ∨ k = 7 ∨ k = 8 ∨ k = 9 ∨ k = 10 by omega) with rfl | rfl | rfl | rfl | rfl | rfl | rfl | rfl | rfl | rfl | rfl <;> rfl
theorem St.nums {w0 w : World} {l : List Thing} (S : St w0 w l) (i : Nat) {g : Nat} {T : TypeId} {m : Msg} (h : l[i]? = some (cellsT g T m.cs)) : AtG eI w (some ⟨g, 0, none⟩) m.nums := by
  intro k hk
  refine ⟨rfl, fun u hu => ?_⟩
  have hu0 : u = 0 := by have : u < 1 := hu; omega
  subst hu0
  have := S.cell i h k (m.cs_get hk)
  have e : adr (some ⟨g, 0, none⟩) (k * eI.s + 0) = ⟨g, k, none⟩ := by
    show adr (some ⟨g, 0, none⟩) (k * 1 + 0) = _
    simp [adr, Addr.add_lit]
  rw [e, this]
  rfl
end Go.Proofs.YtjfbmgndekfglaaDoor

namespace Go.Proofs.YtjfbmgndekfglaaDoor
set_option linter.unusedVariables false
set_option linter.unusedSimpArgs false
open Go.RowKit

def Msg.zero : Msg := ⟨0, 0, 0, 0, 0, 0, 0, 0, 0, 0, 0⟩
/-- What Get tells. -/
def GetMPost (o : Option Msg) (e : Ending) : Prop :=
  match o with
  | none => e = .returned (.tuple #[.agg #[.int .i64 0, .int .i64 0, .int .i64 0, .int .i64 0, .int .i64 0, .int .i64 0, .int .i64 0, .int .i64 0, .int .i64 0, .int .i64 0, .int .i64 0], .bool false])
  | some m => e = .returned (.tuple #[.agg #[.int .i64 m.node, .int .i64 m.kind, .int .i64 m.term, .int .i64 m.gen, .int .i64 m.job, .int .i64 m.inc, .int .i64 m.version, .int .i64 m.epoch, .int .i64 m.until_, .int .i64 m.mode, .int .i64 m.work], .bool true])
theorem St.heap {w0 w : World} {l : List Thing} (S : St w0 w l) (k : Nat) {g : Nat} {T : TypeId} {cs : List Value} (h : l[k]? = some (cellsT g T cs)) : w.heap[g]? = some (.cells cs.toArray T (0, 0)) := by
  obtain ⟨F, h1, h2, h3⟩ := S.head k h
  exact h2
theorem St.msgFrozen {w0 w : World} {l : List Thing} (S : St w0 w l) (k : Nat) {g : Nat} {T : TypeId} {cs : List Value} (h : l[k]? = some (cellsT g T cs)) :
    w.frozen? ⟨g, 0, none⟩ = false ∧ w.frozen? ⟨g, 1, none⟩ = false ∧ w.frozen? ⟨g, 2, none⟩ = false ∧ w.frozen? ⟨g, 3, none⟩ = false ∧ w.frozen? ⟨g, 4, none⟩ = false ∧ w.frozen? ⟨g, 5, none⟩ = false ∧ w.frozen? ⟨g, 6, none⟩ = false ∧ w.frozen? ⟨g, 7, none⟩ = false ∧ w.frozen? ⟨g, 8, none⟩ = false ∧ w.frozen? ⟨g, 9, none⟩ = false ∧ w.frozen? ⟨g, 10, none⟩ = false :=
  ⟨S.frozen k h 0, S.frozen k h 1, S.frozen k h 2, S.frozen k h 3, S.frozen k h 4, S.frozen k h 5, S.frozen k h 6, S.frozen k h 7, S.frozen k h 8, S.frozen k h 9, S.frozen k h 10⟩
theorem St.setMsg {w0 w : World} {l : List Thing} {g : Nat} {T : TypeId} {m m' : Msg} (S : St w0 w (cellsT g T m.cs :: l)) :
    St w0 (((((((((((w.setCell ⟨g, 0, none⟩ (.int .i64 m'.node)).setCell ⟨g, 1, none⟩ (.int .i64 m'.kind)).setCell ⟨g, 2, none⟩ (.int .i64 m'.term)).setCell ⟨g, 3, none⟩ (.int .i64 m'.gen)).setCell ⟨g, 4, none⟩ (.int .i64 m'.job)).setCell ⟨g, 5, none⟩ (.int .i64 m'.inc)).setCell ⟨g, 6, none⟩ (.int .i64 m'.version)).setCell ⟨g, 7, none⟩ (.int .i64 m'.epoch)).setCell ⟨g, 8, none⟩ (.int .i64 m'.until_)).setCell ⟨g, 9, none⟩ (.int .i64 m'.mode)).setCell ⟨g, 10, none⟩ (.int .i64 m'.work)) (cellsT g T m'.cs :: l) :=
  ((((((((((S.setCell 0 rfl 0 (.int .i64 m'.node)).setCell 0 rfl 1 (.int .i64 m'.kind)).setCell 0 rfl 2 (.int .i64 m'.term)).setCell 0 rfl 3 (.int .i64 m'.gen)).setCell 0 rfl 4 (.int .i64 m'.job)).setCell 0 rfl 5 (.int .i64 m'.inc)).setCell 0 rfl 6 (.int .i64 m'.version)).setCell 0 rfl 7 (.int .i64 m'.epoch)).setCell 0 rfl 8 (.int .i64 m'.until_)).setCell 0 rfl 9 (.int .i64 m'.mode)).setCell 0 rfl 10 (.int .i64 m'.work)
theorem AtG.msg {w' : World} {al : Option Addr} {m : Msg} (h : AtG eI w' al m.nums) : w'.cell? (adr al 0) = some (.int .i64 m.node) ∧ w'.cell? (adr al 1) = some (.int .i64 m.kind) ∧ w'.cell? (adr al 2) = some (.int .i64 m.term) ∧ w'.cell? (adr al 3) = some (.int .i64 m.gen) ∧ w'.cell? (adr al 4) = some (.int .i64 m.job) ∧ w'.cell? (adr al 5) = some (.int .i64 m.inc) ∧ w'.cell? (adr al 6) = some (.int .i64 m.version) ∧ w'.cell? (adr al 7) = some (.int .i64 m.epoch) ∧ w'.cell? (adr al 8) = some (.int .i64 m.until_) ∧ w'.cell? (adr al 9) = some (.int .i64 m.mode) ∧ w'.cell? (adr al 10) = some (.int .i64 m.work) := by
  have e : ∀ (k : Nat) (hk : k < m.nums.length), w'.cell? (adr al k) = some (.int .i64 m.nums[k]) := by
    intro k hk
    have := (h k hk).2 0 (by decide)
    rwa [show k * eI.s + 0 = k from Nat.mul_one k] at this
  exact ⟨e 0 (show 0 < 11 by omega), e 1 (show 1 < 11 by omega), e 2 (show 2 < 11 by omega), e 3 (show 3 < 11 by omega), e 4 (show 4 < 11 by omega), e 5 (show 5 < 11 by omega), e 6 (show 6 < 11 by omega), e 7 (show 7 < 11 by omega), e 8 (show 8 < 11 by omega), e 9 (show 9 < 11 by omega), e 10 (show 10 < 11 by omega)⟩

end Go.Proofs.YtjfbmgndekfglaaDoor

namespace Go.Proofs.YtjfbmgndekfglaaDoor
set_option linter.unusedVariables false
set_option linter.unusedSimpArgs false
open Go.RowKit

end Go.Proofs.YtjfbmgndekfglaaDoor

namespace Go.Proofs.YtjfbmgndekfglaaDoor
set_option linter.unusedVariables false
set_option linter.unusedSimpArgs false
open Go.RowKit

/-- A message's bytes on their way. -/
structure Pc where
  a : Option Addr
  n : Nat
  c : Nat
  b : List UInt8
  t : Bool
def pcT (x : Pc) : Thing := bytesT (.slice x.a x.n x.c) x.b
section
variable {w0 w : World} {tl : List Thing} {g : Nat} {a : Option Addr} {c : Nat} {pcs : List Pc} {sent : Nat}
end

end Go.Proofs.YtjfbmgndekfglaaDoor

namespace Go.Proofs.YtjfbmgndekfglaaDoor
set_option linter.unusedVariables false
set_option linter.unusedSimpArgs false
open Go.RowKit
section
variable {w0 w : World} {tl : List Thing} {g : Nat} {a : Option Addr} {c : Nat} {pcs : List Pc} {sent : Nat}
theorem perm_erase {α : Type} (l : List α) (k : Nat) (h : k < l.length) : l.Perm (l[k] :: l.eraseIdx k) := by
  have e : l.take k ++ l[k] :: l.drop (k + 1) = l := by rw [← List.drop_eq_getElem_cons h, List.take_append_drop]
  rw [List.eraseIdx_eq_take_drop_succ]
  refine List.Perm.trans (List.Perm.of_eq e.symm) List.perm_middle
theorem has_no {i : Int} {n : Nat} (h : ¬ (0 ≤ i ∧ i < (n : Int))) : (decide (0 ≤ i) && decide (i < (n : Int))) = false := by
  simp; omega
theorem has_yes {i : Int} {n : Nat} (h : 0 ≤ i ∧ i < (n : Int)) : (decide (0 ≤ i) && decide (i < (n : Int))) = true := by
  simp; omega
theorem cutG_zero {α : Type} {e : Elt α} : True := trivial
theorem idxG2 {α : Type} {e : Elt α} (he : e.Ok) (a : Option Addr) (n cap : Nat) (hn : 0 < n → a.isSome = true) (k : Nat) (hk : k < n) (wx : World) :
    (Instr.indexAt e.T (.slice a n cap) (.int .i64 (k : Int))).run Tryd.prog wx = .ok (.pointer (some (adr a (k * e.s)))) wx := idxG he a n cap hn k k rfl hk wx
end

end Go.Proofs.YtjfbmgndekfglaaDoor

namespace Go.Proofs.YtjfbmgndekfglaaDoor
set_option linter.unusedVariables false
set_option linter.unusedSimpArgs false
open Go.RowKit
section
variable {w0 w : World} {tl : List Thing} {g : Nat} {a : Option Addr} {c : Nat} {pcs : List Pc} {sent : Nat}
theorem adr_lit (g k : Nat) : adr (some ⟨g, 0, none⟩) k = ⟨g, k, none⟩ := by simp [adr, Addr.add_lit]
theorem St.frozenB {r : List Thing} (S : St w0 w r) (k : Nat) {x : Pc} (hk : r[k]? = some (pcT x)) {gb : Nat} (ha : x.a = some ⟨gb, 0, none⟩) (hn : 0 < x.b.length) (o : Nat) : w.frozen? ⟨gb, o, none⟩ = false := by
  have h := S.ownAt k hk
  have hl := (S.slA k hk).1
  rw [ha] at h
  exact h.frz hl o
theorem bit_turned (x : UInt8) (k : Nat) (hk : k < 8) : x ^^^ UInt8.ofNat (2 ^ k) ≠ x ∧ ((2 : Int) ^ k) % 256 = ((UInt8.ofNat (2 ^ k)).toNat : Int) := by
  have h : k = 0 ∨ k = 1 ∨ k = 2 ∨ k = 3 ∨ k = 4 ∨ k = 5 ∨ k = 6 ∨ k = 7 := by omega
  refine ⟨?_, by rcases h with rfl | rfl | rfl | rfl | rfl | rfl | rfl | rfl <;> rfl⟩
  intro e
  have e2 : x ^^^ (x ^^^ UInt8.ofNat (2 ^ k)) = x ^^^ x := by rw [e]
  rw [← UInt8.xor_assoc, UInt8.xor_self, UInt8.zero_xor] at e2
  rcases h with rfl | rfl | rfl | rfl | rfl | rfl | rfl | rfl <;> cases e2
/-- A bit of bytes is turned. -/
def flipB (l : List UInt8) (k : Nat) : List UInt8 := l.set (k / 8) (l.getD (k / 8) 0 ^^^ UInt8.ofNat (2 ^ (k % 8)))
def Pc.nil : Pc := ⟨none, 0, 0, [], false⟩
def Pc.flip (x : Pc) (k : Nat) : Pc := { x with b := flipB x.b k, t := true }
theorem OwnC.alike {α : Type} {e : Elt α} {B : Nat} {v : Value} {l m : List α} (h : OwnC e w B v l) (hm : m.flatMap e.enc = l.flatMap e.enc) (hl : m.length = l.length) : OwnC e w B v m := by
  obtain ⟨a, n, cap, CAP, e1, h1, h2, h3⟩ := h
  refine ⟨a, n, cap, CAP, e1, h1, h2, ?_⟩
  unfold OwnG at h3 ⊢
  rw [hm, hl]; exact h3
end

end Go.Proofs.YtjfbmgndekfglaaDoor

namespace Go.Proofs.YtjfbmgndekfglaaDoor
set_option linter.unusedVariables false
set_option linter.unusedSimpArgs false
open Go.RowKit
section
variable {w0 w : World} {tl : List Thing} {g : Nat} {a : Option Addr} {c : Nat} {pcs : List Pc} {sent : Nat}
/-- The messages of the first `k` pieces. -/
def msgsOf (pcs : List Pc) (k : Nat) : List Msg := (pcs.take k).filterMap fun x => getM x.b
theorem msgsOf_len (pcs : List Pc) (k : Nat) : (msgsOf pcs k).length ≤ k := by
  refine Nat.le_trans (List.length_filterMap_le _ _) ?_
  rw [List.length_take]; omega
theorem msgsOf_step {pcs : List Pc} {k : Nat} (hk : k < pcs.length) : msgsOf pcs (k + 1) = msgsOf pcs k ++ (getM pcs[k].b).toList := by
  unfold msgsOf
  rw [List.take_succ_eq_append_getElem hk, List.filterMap_append]
  cases h : getM pcs[k].b <;> simp [h]
end

end Go.Proofs.YtjfbmgndekfglaaDoor

namespace Go.Proofs.YtjfbmgndekfglaaDoor
set_option linter.unusedVariables false
set_option linter.unusedSimpArgs false
open Go.RowKit

/-- Things as one. -/
def allT : List Thing → Thing
  | [] => { lies := fun w B F => ∀ b, ¬ F b, touch := fun h _ _ _ => h, low := fun h b hb => (h b hb).elim }
  | x :: l => sepT x (allT l)
theorem St.allI {w0 w : World} : ∀ (l tl : List Thing), St w0 w (l ++ tl) → St w0 w (allT l :: tl)
  | [], tl, S => (S.push (Below.refl _ _) (y := allT []) (F := fun _ => False) (fun b h => h) (fun _ h => h.elim)).rot
  | x :: l, tl, S => by
    have h1 : St w0 w (l ++ (tl ++ [x])) := St.conv (St.unrot (y := x) (l := l ++ tl) S) (by simp)
    have h2 := St.allI l (tl ++ [x]) h1
    exact (St.rot (l := allT l :: tl) h2).joinF
theorem St.allF {w0 w : World} : ∀ (l tl : List Thing), St w0 w (allT l :: tl) → St w0 w (l ++ tl)
  | [], tl, S => S.tail
  | x :: l, tl, S => by
    have h1 : St w0 w (x :: allT l :: tl) := S.splitF
    have h2 : St w0 w (allT l :: (tl ++ [x])) := St.unrot (y := x) (l := allT l :: tl) h1
    have h3 := St.allF l (tl ++ [x]) h2
    exact (St.rot (l := l ++ tl) (St.conv h3 (by simp)))

/-- A message on its way: which bit of it was turned. -/
structure NM where
  m : Msg
  k : Option Nat
def NM.bytes (x : NM) : List UInt8 := match x.k with | none => putM x.m | some k => flipB (putM x.m) k
def NM.ok (x : NM) : Prop := x.m.right = true ∧ ∀ k, x.k = some k → k / 8 < (putM x.m).length
def NM.shown (x : NM) : Option Msg := match x.k with | none => some x.m | some _ => none
def NM.nil : NM := ⟨Msg.zero, none⟩
/-- All messages on their way, and how often one was sent. -/
structure NS where
  l : List NM
  sent : Nat
def NS.ok (s : NS) : Prop := s.l.length ≤ 40 ∧ ∀ x ∈ s.l, x.ok
def nSend (s : NS) (m : Msg) : Bool × NS := if s.l.length < 40 ∧ m.right = true then (true, ⟨s.l ++ [⟨m, none⟩], s.sent + 1⟩) else (false, s)
def nDrop (s : NS) (i : Int) : Bool × NS := if 0 ≤ i ∧ i < (s.l.length : Int) then (true, ⟨s.l.eraseIdx i.toNat, s.sent⟩) else (false, s)
def nDeliver (s : NS) (i : Int) : Option Msg × NS := if 0 ≤ i ∧ i < (s.l.length : Int) then ((s.l.getD i.toNat NM.nil).shown, ⟨s.l.eraseIdx i.toNat, s.sent⟩) else (none, s)
def nTwice (s : NS) (i : Int) : Bool × NS := if (0 ≤ i ∧ i < (s.l.length : Int)) ∧ s.l.length < 40 then (true, ⟨s.l ++ [s.l.getD i.toNat NM.nil], s.sent⟩) else (false, s)
def nFlip (s : NS) (i bit : Int) : Bool × NS :=
  if (0 ≤ i ∧ i < (s.l.length : Int)) ∧ (0 ≤ bit ∧ bit / 8 < ((putM (s.l.getD i.toNat NM.nil).m).length : Int)) ∧ (s.l.getD i.toNat NM.nil).k = none then
    (true, ⟨s.l.set i.toNat ⟨(s.l.getD i.toNat NM.nil).m, some bit.toNat⟩, s.sent⟩)
  else (false, s)
def nList (s : NS) : List Msg := s.l.filterMap NM.shown

theorem getD_at {α : Type} {l : List α} {i : Nat} {d : α} (h : i < l.length) : l.getD i d = l[i] := by simp [List.getD, h]
theorem putM_len {m : Msg} (h : m.right = true) : 18 ≤ (putM m).length ∧ (putM m).length ≤ 47 ∧ putM m = frameB (codeList m.nums) ∧ (putM m).length = (codeList m.nums).length + 6 := by
  obtain ⟨c1, c2⟩ := Msg.codeLen h
  have e : putM m = frameB (codeList m.nums) := by unfold putM; rw [if_pos h]
  have hl := frame_len (p := codeList m.nums) (by omega) (by omega)
  have h1 : (codeNum ((codeList m.nums).length : Int)).length = 1 := by
    rw [codeNum_yes (by omega), numF, if_pos (by omega)]; rfl
  rw [e, hl]
  exact ⟨by omega, by omega, rfl, by omega⟩
theorem flipB_len (l : List UInt8) (k : Nat) : (flipB l k).length = l.length := List.length_set ..
theorem NM.len {x : NM} (h : x.ok) : x.bytes.length = (putM x.m).length ∧ x.bytes.length ≤ 47 := by
  have := putM_len h.1
  have e : x.bytes.length = (putM x.m).length := by
    unfold NM.bytes
    split
    · rfl
    · exact flipB_len _ _
  exact ⟨e, by omega⟩
/-- A message with a bit turned is none. -/
theorem getM_flip {m : Msg} (h : m.right = true) {k : Nat} (hk : k / 8 < (putM m).length) : getM (flipB (putM m) k) = none := by
  rcases hg : getM (flipB (putM m) k) with _ | m'
  · rfl
  exfalso
  obtain ⟨h1, h2⟩ := getM_right hg
  obtain ⟨p1, p2, p3, p4⟩ := putM_len h
  obtain ⟨q1, q2, q3, q4⟩ := putM_len h1
  have hlen : (putM m').length = (putM m).length := by rw [h2, flipB_len]
  obtain ⟨hne, -⟩ := bit_turned ((putM m)[k / 8]) (k % 8) (by omega)
  have hgd : (putM m).getD (k / 8) 0 = (putM m)[k / 8] := getD_at hk
  have hset : flipB (putM m) k = (putM m).set (k / 8) ((putM m)[k / 8] ^^^ UInt8.ofNat (2 ^ (k % 8))) := by unfold flipB; rw [hgd]
  obtain ⟨c1, c2⟩ := Msg.codeLen h
  obtain ⟨d1, d2⟩ := Msg.codeLen h1
  rw [hset] at h2 hg
  clear hset hgd
  generalize UInt8.ofNat (2 ^ (k % 8)) = d at *
  generalize k / 8 = j at *
  have one : ∀ n : Nat, 12 ≤ n → n ≤ 34 → codeNum (n : Int) = [UInt8.ofNat n] := by
    intro n h1 h2
    rw [codeNum_yes (by omega), numF, if_pos (by omega)]
  by_cases h0 : j = 0
  · -- the length's own byte
    subst h0
    have e1 : (putM m)[0]? = some (UInt8.ofNat (codeList m.nums).length) := by
      rw [p3, frame_parts (by omega) (by omega), one _ c1 c2]; rfl
    have e2 : (putM m')[0]? = some (UInt8.ofNat (codeList m'.nums).length) := by
      rw [q3, frame_parts (by omega) (by omega), one _ d1 d2]; rfl
    rw [h2, List.getElem?_set_self (by omega)] at e2
    have e3 : (codeList m'.nums).length = (codeList m.nums).length := by omega
    rw [e3, ← e1, List.getElem?_eq_getElem (by omega)] at e2
    exact hne (Option.some.inj e2)
  · have hj : j < (frameB (codeList m.nums)).length := by rw [← p3]; exact hk
    have hfm : (frameB (codeList m.nums))[j] = (putM m)[j] := by simp only [p3]
    have ht := fGet_turned (p := codeList m.nums) (by omega) (by omega) j (by rw [one _ c1 c2]; simp; omega) hj ((putM m)[j] ^^^ d) (by rw [hfm]; exact hne)
    unfold getM at hg
    rw [← p3] at ht
    rw [ht] at hg
    simp at hg
theorem NM.get {x : NM} (h : x.ok) : getM x.bytes = x.shown := by
  obtain ⟨h1, h2⟩ := h
  unfold NM.bytes NM.shown
  cases hk : x.k with
  | none => exact getM_put h1
  | some k => exact getM_flip h1 (h2 k hk)

/-- What lies in a net's pieces. -/
def NMatch (s : NS) (pcs : List Pc) : Prop := pcs.map (fun x => (x.b, x.t)) = s.l.map (fun x => (x.bytes, x.k.isSome)) ∧ s.ok
theorem NMatch.len {s : NS} {pcs : List Pc} (h : NMatch s pcs) : pcs.length = s.l.length := by
  have := congrArg List.length h.1
  simpa using this
theorem NMatch.at {s : NS} {pcs : List Pc} (h : NMatch s pcs) {k : Nat} (hk : k < pcs.length) (hk2 : k < s.l.length) : pcs[k].b = s.l[k].bytes ∧ pcs[k].t = s.l[k].k.isSome := by
  have h1 : (pcs.map (fun x => (x.b, x.t)))[k]? = (s.l.map (fun x => (x.bytes, x.k.isSome)))[k]? := by rw [h.1]
  rw [List.getElem?_map, List.getElem?_map, List.getElem?_eq_getElem hk, List.getElem?_eq_getElem hk2] at h1
  simp at h1
  exact h1
section
variable {w0 w : World} {tl r : List Thing} {g : Nat} {s : NS}
theorem St.put {w0 w : World} {l : List Thing} {k : Nat} {x y : Thing} (h : l[k]? = some x) (S : St w0 w (y :: l.eraseIdx k)) : St w0 w (l.set k y) := S.back (List.getElem?_eq_some_iff.1 h).1
theorem NMatch.erase {pcs : List Pc} (h : NMatch s pcs) (i : Nat) : NMatch ⟨s.l.eraseIdx i, s.sent⟩ (pcs.eraseIdx i) := by
  have hl := h.2.1
  have h3 : (s.l.eraseIdx i).length ≤ s.l.length := by
    rw [List.length_eraseIdx]; split <;> omega
  refine ⟨?_, ?_, fun x hx => h.2.2 x (List.mem_of_mem_eraseIdx hx)⟩
  · rw [List.eraseIdx_eq_take_drop_succ, List.eraseIdx_eq_take_drop_succ, List.map_append, List.map_append, List.map_take, List.map_take, List.map_drop, List.map_drop, h.1]
  · show (s.l.eraseIdx i).length ≤ 40
    omega
theorem NMatch.list {pcs : List Pc} (h : NMatch s pcs) : msgsOf pcs pcs.length = nList s := by
  unfold msgsOf nList
  rw [List.take_length]
  have h1 : pcs.map Pc.b = s.l.map NM.bytes := by
    have := congrArg (List.map Prod.fst) h.1
    rw [List.map_map, List.map_map] at this
    exact this
  have e1 : pcs.filterMap (fun x => getM x.b) = (pcs.map Pc.b).filterMap getM := by rw [List.filterMap_map]; rfl
  rw [e1, h1, List.filterMap_map]
  have hg : ∀ l : List NM, (∀ x ∈ l, x.ok) → l.filterMap (getM ∘ NM.bytes) = l.filterMap NM.shown := by
    intro l
    induction l with
    | nil => intro _; rfl
    | cons x l ih =>
      intro hl
      rw [List.filterMap_cons, List.filterMap_cons, ih (fun y hy => hl y (by simp [hy]))]
      simp only [Function.comp, NM.get (hl x (by simp))]
  exact hg _ h.2.2
end

end Go.Proofs.YtjfbmgndekfglaaDoor
