/- The walk of layer 1's reader of lists. -/
import Derived.Test.YtbkbogdengeghaaCodeGet
namespace Go.Proofs.Ytbkbogdengeghaa
set_option linter.unusedVariables false
set_option linter.unusedSimpArgs false
open Go.RowKit

def numOf (o : Option (Nat × Nat)) : Int := match o with | some p => (p.1 : Int) | none => 0
def nextOf (o : Option (Nat × Nat)) : Int := match o with | some p => (p.2 : Int) | none => 0
theorem res3_eq (o : Option (Nat × Nat)) : res3 o = .tuple #[.int .i64 (numOf o), .int .i64 (nextOf o), .bool o.isSome] := by cases o <;> rfl

set_option maxRecDepth 10000 in
set_option maxHeartbeats 400000 in
theorem read_any (b0 b1 b2 : Nat) (h12 : b1 ≠ b2) (a : Option Addr) (l : List UInt8) (n cap : Nat) (at_ : Int) (x : Int) (ok : Bool) (w : World) (hn : l.length = n) (hl : n ≤ 140737488355328) (hcap : n ≤ cap) (hA : At w a l)
    (c0 : w.cell? ⟨b0, 0, none⟩ = some (.slice a n cap)) (c1 : w.cell? ⟨b1, 0, none⟩ = some (.int .i64 x)) (c2 : w.cell? ⟨b2, 0, none⟩ = some (.bool ok))
    (f1 : w.frozen? ⟨b1, 0, none⟩ = false) (f2 : w.frozen? ⟨b2, 0, none⟩ = false) :
    Calls Try.prog 41 #[.int .i64 at_, .pointer (some ⟨b0, 0, none⟩), .pointer (some ⟨b1, 0, none⟩), .pointer (some ⟨b2, 0, none⟩)] w fun e w' =>
      e = .returned (.int .i64 (numOf (getNum l at_))) ∧ w' = (w.setCell ⟨b1, 0, none⟩ (.int .i64 (nextOf (getNum l at_)))).setCell ⟨b2, 0, none⟩ (.bool (getNum l at_).isSome) := by
  have HA := hid hA
  clear hA
  go_enter Try.func41, Try.ntmps41
  go_wp2_with fail
  refine (getNum_any a l n cap at_ w hn hl hcap (by exact HA.out)).mono ?_
  rintro e w' ⟨rfl, rfl⟩
  rw [res3_eq]
  generalize ho : getNum l at_ = o
  have HO := hid ho
  clear ho
  have g2 : (w.setCell ⟨b1, 0, none⟩ (.int .i64 (nextOf o))).cell? ⟨b2, 0, none⟩ = some (.bool ok) := by
    rw [World.cell?_setCell_far _ _ _ _ h12]; exact c2
  have g3 : (w.setCell ⟨b1, 0, none⟩ (.int .i64 (nextOf o))).frozen? ⟨b2, 0, none⟩ = false := by
    rw [← f2]; exact World.frozen?_of_block (Below.heap_setCell _ _ _ _ (Ne.symm h12))
  go_wp2
  go_ret
  exact ⟨by rw [HO.out]; rfl, by rw [HO.out]⟩

/-- What a reader of lists leaves. -/
def ListPost (o : Option (List Int × Nat)) (B : Nat) (e : Ending) (w' : World) : Prop :=
  match o with
  | some p => ∃ v, e = .returned (.tuple #[v, .int .i64 (p.2 : Int), .bool true]) ∧ OwnG eI w' B v p.1
  | none => e = .returned (.tuple #[.slice none 0 0, .int .i64 0, .bool false])

/-- The three variables that the closure holds. -/
structure Boxes (w : World) (B : Nat) (a : Option Addr) (n cap : Nat) (x : Int) (ok : Bool) : Prop where
  c0 : w.cell? ⟨B, 0, none⟩ = some (.slice a n cap)
  c1 : w.cell? ⟨B + 1, 0, none⟩ = some (.int .i64 x)
  c2 : w.cell? ⟨B + 1 + 1, 0, none⟩ = some (.bool ok)
  f1 : w.frozen? ⟨B + 1, 0, none⟩ = false
  f2 : w.frozen? ⟨B + 1 + 1, 0, none⟩ = false
  lt : B + 1 + 1 < w.heap.size
theorem Boxes.below {w w' : World} {B : Nat} {a : Option Addr} {n cap : Nat} {x : Int} {ok : Bool} (h : Boxes w B a n cap x ok) (hb : Below (B + 1 + 1 + 1) w w') : Boxes w' B a n cap x ok :=
  ⟨(hb.cell (p := ⟨B, 0, none⟩) (by simp <;> omega)).trans h.c0, (hb.cell (p := ⟨B + 1, 0, none⟩) (by simp <;> omega)).trans h.c1, (hb.cell (p := ⟨B + 1 + 1, 0, none⟩) (by simp <;> omega)).trans h.c2,
    (hb.frozen (p := ⟨B + 1, 0, none⟩) (by simp <;> omega)).trans h.f1, (hb.frozen (p := ⟨B + 1 + 1, 0, none⟩) (by simp <;> omega)).trans h.f2, Nat.lt_of_lt_of_le h.lt hb.size⟩
theorem cell_set {w : World} {p : Addr} {v u : Value} (h : w.cell? p = some v) : (w.setCell p u).cell? p = some u := by
  obtain ⟨b, o, s⟩ := p
  unfold World.cell? at h
  simp only at h
  split at h
  · rename_i c el fr heq
    split at h
    · cases h
    · rename_i hs
      simp only [World.setCell, World.cell?, Array.getElem?_modify, heq, if_true, Option.map_some, hs]
      have := (Array.getElem?_eq_some_iff.1 h).1
      simp [this]
  · cases h
theorem Boxes.set {w : World} {B : Nat} {a : Option Addr} {n cap : Nat} {x : Int} {ok : Bool} (h : Boxes w B a n cap x ok) (y : Int) (k : Bool) :
    Boxes ((w.setCell ⟨B + 1, 0, none⟩ (.int .i64 y)).setCell ⟨B + 1 + 1, 0, none⟩ (.bool k)) B a n cap y k := by
  have g2 : (w.setCell ⟨B + 1, 0, none⟩ (.int .i64 y)).cell? ⟨B + 1 + 1, 0, none⟩ = some (.bool ok) := by
    rw [World.cell?_setCell_far _ _ _ _ (by simp <;> omega)]; exact h.c2
  refine ⟨?_, ?_, cell_set g2, ?_, ?_, by simpa [World.setCell] using h.lt⟩
  · rw [World.cell?_setCell_far _ _ _ _ (by simp <;> omega), World.cell?_setCell_far _ _ _ _ (by simp <;> omega)]; exact h.c0
  · rw [World.cell?_setCell_far _ _ _ _ (by simp <;> omega)]; exact cell_set h.c1
  · rw [World.frozen?_setCell, World.frozen?_setCell]; exact h.f1
  · rw [World.frozen?_setCell, World.frozen?_setCell]; exact h.f2
theorem two_sets {w : World} {B C : Nat} (u v : Value) (hC : C ≤ B) : Below C w ((w.setCell ⟨B + 1, 0, none⟩ u).setCell ⟨B + 1 + 1, 0, none⟩ v) :=
  ((Below.refl _ _).setCell (p := ⟨B + 1, 0, none⟩) (by simp; omega) _).setCell (p := ⟨B + 1 + 1, 0, none⟩) (by simp; omega) _
theorem OwnG.two_sets {α : Type} {e : Elt α} {w : World} {B : Nat} {v : Value} {l : List α} (h : OwnG e w (B + 1 + 1 + 1) v l) (u z : Value) :
    OwnG e ((w.setCell ⟨B + 1, 0, none⟩ u).setCell ⟨B + 1 + 1, 0, none⟩ z) (B + 1 + 1 + 1) v l :=
  ownsRow_setCell_below (ownsRow_setCell_below h (by simp) _) (by simp) _

theorem getItems_step {l : List UInt8} {m x : Nat} {o : Option (List Int × Nat)} (h : getItems l (m + 1) x = o) : ∀ p, getNum l x = some p → o = (getItems l m p.2).map fun q => ((p.1 : Int) :: q.1, q.2) := by
  rintro p hp; rw [← h, getItems, hp]; rfl

set_option maxRecDepth 10000 in
set_option maxHeartbeats 1000000 in
theorem getList_any (a : Option Addr) (l : List UInt8) (n cap : Nat) (at_ many : Int) (w : World) (hn : l.length = n) (hl : n ≤ 8796093022208) (hcap : n ≤ cap) (hA : At w a l) :
    Calls Try.prog 34 #[.slice a n cap, .int .i64 at_, .int .i64 many] w fun e w' => ListPost (getList l at_ many) w.heap.size e w' ∧ Below w.heap.size w w' := by
  have HA := hid hA
  have HN := hid hn
  clear hA hn
  obtain ⟨B, hB⟩ : ∃ B, B = w.heap.size := ⟨_, rfl⟩
  go_enter Try.func34, Try.ntmps34
  go_wp2_with fail
  have HX : Boxes (((w.alloc (.cells #[.slice a n cap] 22)).alloc (.cells #[.int .i64 0] 3)).alloc (.cells #[.bool false] 4)) B a n cap 0 false := by
    subst hB
    refine ⟨by simp [go_sem], by simp [go_sem], by simp [go_sem], by simp [go_sem], by simp [go_sem], by simp [go_sem]⟩
  have HBl : Below B w (((w.alloc (.cells #[.slice a n cap] 22)).alloc (.cells #[.int .i64 0] 3)).alloc (.cells #[.bool false] 4)) :=
    (((Below.refl _ _).alloc (by omega) _).alloc (by simp; omega) _).alloc (by simp; omega) _
  have hW : w.heap.size = B := hB.symm
  have HW := hid hW
  rw [hW]
  generalize (((w.alloc (.cells #[.slice a n cap] 22)).alloc (.cells #[.int .i64 0] 3)).alloc (.cells #[.bool false] 4)) = W0 at *
  have HX0 := hid HX
  have HBl0 := hid HBl
  have HA0 : Hid (At W0 a l) := HA.out.all (by rw [HW.out]; exact HBl)
  have hsz0 := HX.lt
  clear hW hB HX HBl
  refine (read_any B (B + 1) (B + 1 + 1) (by omega) a l n cap at_ 0 false W0 HN.out (by omega) hcap (by exact HA0.out) HX0.out.c0 HX0.out.c1 HX0.out.c2 HX0.out.f1 HX0.out.f2).mono ?_
  rintro e w1 ⟨rfl, hw1⟩
  have HX1 : Hid (Boxes w1 B a n cap (nextOf (getNum l at_)) (getNum l at_).isSome) := by rw [hw1]; exact HX0.out.set _ _
  have HBl1 : Hid (Below B w w1) := HBl0.out.trans (by rw [hw1]; exact two_sets _ _ (Nat.le_refl _))
  have hsz1 := HX1.out.lt
  clear hw1
  rcases hg : getNum l at_ with _ | ⟨m, x⟩
  · have HR : Hid (getList l at_ many = none) := by rw [Hid, getList, hg]; rfl
    rw [hg] at HX1
    have c2 := HX1.out.c2
    simp only [Option.isSome] at c2
    go_wp2
    go_ret3
    exact ⟨by rw [HR.out]; rfl, by rw [HW.out]; exact HBl1.out⟩
  rw [hg] at HX1
  obtain ⟨hm, hx1, hx2, h0⟩ := getNum_some hg
  rw [HN.out] at hx2
  have c2 := HX1.out.c2
  simp only [Option.isSome] at c2
  have HG := hid hg
  clear hg
  simp only [numOf]
  by_cases hmany : many < (m : Int)
  · have HR : Hid (getList l at_ many = none) := by rw [Hid, getList, HG.out, Option.bind_some, if_pos hmany]
    have g0 : decide (many < (m : Int)) = true := by simp; omega
    go_wp2
    go_ret3
    exact ⟨by rw [HR.out]; rfl, by rw [HW.out]; exact HBl1.out⟩
  have HR : Hid (getList l at_ many = getItems l m x) := by rw [Hid, getList, HG.out, Option.bind_some, if_neg hmany]
  have g0 : decide (many < (m : Int)) = false := by simp; omega
  have hmI : (m : Int) ≤ 9007199254740991 := by omega
  clear hm
  go_wp2
  clear g0 c2
  go_loopw [13, 27] (fun v q wr => ∃ (k y : Nat) (o : List Int), k ≤ m ∧ q = .int .i64 k ∧ o.length = k ∧ k ≤ y ∧ y ≤ n ∧ OwnG eI wr (B + 1 + 1 + 1) v o ∧ Boxes wr B a n cap y true ∧ Below B w wr ∧ getItems l m x = (getItems l (m - k) y).map fun p => (o ++ p.1, p.2)) (fun _ q _ => m - (intOf q).toNat)
  case atStart => exact ⟨0, x, [], Nat.zero_le _, rfl, rfl, Nat.zero_le _, hx2, OwnG.nil _ _, HX1.out, HBl1.out, by simp⟩
  case round =>
    obtain ⟨k, y, o, hk, rfl, ho, hky, hyn, hown, hbox, hbel, hit⟩ := hrel
    have HO := hid hown
    have HBX := hid hbox
    have HBL := hid hbel
    have HI := hid hit
    have HOL := hid ho
    have c1 := hbox.c1
    have hszr := hbox.lt
    have HAr : Hid (At wr a l) := HA.out.all (by rw [HW.out]; exact hbel)
    clear hown hbox hbel hit ho
    by_cases hlt : k < m
    · go_wp2_with fail
      refine (read_any B (B + 1) (B + 1 + 1) (by omega) a l n cap y y true wr HN.out (by omega) hcap (by exact HAr.out) HBX.out.c0 HBX.out.c1 HBX.out.c2 HBX.out.f1 HBX.out.f2).mono ?_
      rintro e w2 ⟨rfl, hw2⟩
      have HX2 : Hid (Boxes w2 B a n cap (nextOf (getNum l y)) (getNum l y).isSome) := by rw [hw2]; exact HBX.out.set _ _
      have HBL2 : Hid (Below B w w2) := HBL.out.trans (by rw [hw2]; exact two_sets _ _ (Nat.le_refl _))
      have HO2 : Hid (OwnG eI w2 (B + 1 + 1 + 1) u13 o) := by rw [hw2]; exact HO.out.two_sets _ _
      have hsz2 := HX2.out.lt
      clear hw2 c1
      rcases hg : getNum l y with _ | ⟨z, y2⟩
      · have HR2 : Hid (getList l at_ many = none) := by
          rw [Hid, HR.out, HI.out, show m - k = (m - k - 1) + 1 by omega, getItems, hg]; rfl
        rw [hg] at HX2
        have c2 := HX2.out.c2
        simp only [Option.isSome] at c2
        go_wp2
        go_ret3
        exact ⟨by rw [HR2.out]; rfl, by rw [HW.out]; exact HBL2.out⟩
      rw [hg] at HX2
      obtain ⟨hz, hy1, hy2, _⟩ := getNum_some hg
      rw [HN.out] at hy2
      have c2 := HX2.out.c2
      simp only [Option.isSome] at c2
      have HI2 : Hid (getItems l m x = (getItems l (m - (k + 1)) y2).map fun p => ((o ++ [(z : Int)]) ++ p.1, p.2)) := by
        rw [Hid, HI.out, show m - k = (m - (k + 1)) + 1 by omega, getItems, hg, Option.bind_some, Option.map_map]
        congr 1
        funext p
        simp
      have HY2 : Hid (Boxes w2 B a n cap y2 true) := HX2.out
      have hol := HOL.out
      have HOL2 : Hid ((o ++ [(z : Int)]).length = k + 1) := by rw [Hid, List.length_append, hol]; rfl
      clear hg hz hol
      simp only [numOf]
      go_wp2_with (at_builtin; refine wpList_app (by rfl) (.tmp 34) (.tmp 36) 33 33 33 rfl rfl _ _ rfl rfl (runG_app1 eIok w2 (B + 1 + 1 + 1) _ o (by exact HO2.out) (z : Int) _ rfl (by rw [HOL.out]; simp [eI]; omega) (by rw [HOL.out]; unfold maxLen; omega) (by omega)) ?_; rintro v3 w3 ⟨hown3, hb3⟩; have HO3 := hid hown3; have HB3 := hid (HBL2.out.trans (hb3.mono (by omega))); have HX3 := hid (HY2.out.below hb3); clear hown3 hb3)
      go_roundw
      case rel => exact ⟨k + 1, y2, o ++ [(z : Int)], by omega, by go_num, HOL2.out, by omega, hy2, HO3.out, HX3.out, HB3.out, HI2.out⟩
      case measure => simp [intOf]; omega
    · have ek : k = m := by omega
      have HR2 : Hid (getList l at_ many = some (o, y)) := by rw [Hid, HR.out, HI.out, ek, Nat.sub_self, getItems]; simp
      clear ek
      go_wp2
      go_quiet (fail)
      go_wp2
      go_ret3
      exact ⟨by rw [HR2.out]; exact ⟨_, rfl, HO.out.base (by rw [HW.out]; omega)⟩, by rw [HW.out]; exact below_drewN HBL.out _⟩

end Go.Proofs.Ytbkbogdengeghaa
