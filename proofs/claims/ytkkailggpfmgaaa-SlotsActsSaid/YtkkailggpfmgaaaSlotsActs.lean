/- SlotsActs, SlotsTorn: what is done to slots. -/
import Derived.Test.YtkkailggpfmgaaaSlots
import Derived.Test.YtkkailggpfmgaaaOpens
namespace Go.Proofs.Ytkkailggpfmgaaa
set_option linter.unusedVariables false
set_option linter.unusedSimpArgs false
open Go.RowKit

/-- Something that is done to slots. -/
structure SAct where
  kind : Int
  keep : Int
  age : Int
  a : Option Addr
  n : Nat
  c : Nat
  b : List UInt8
def eSA : Elt SAct := { T := 41, E := 55, s := 4, byt := 48, z := .agg #[.int .i64 0, .int .i64 0, .int .i64 0, .slice none 0 0], enc := fun x => [.int .i64 x.kind, .int .i64 x.keep, .int .i64 x.age, .slice x.a x.n x.c] }
theorem eSAok : eSA.Ok := ⟨fun _ => rfl, fun x u hu => by simp [eSA] at hu; rcases hu with rfl | rfl | rfl | rfl <;> rfl, by decide, by kernel_rfl, by kernel_rfl, by rfl⟩
/-- The bytes of an act, as they lie. -/
structure SAct.Ok (w : World) (x : SAct) : Prop where
  len : x.b.length = x.n
  le : x.n ≤ x.c
  big : x.c ≤ maxLen
  nil : x.a = none → x.c = 0
  isAt : At w x.a x.b
  k0 : -9223372036854775808 ≤ x.keep
  k1 : x.keep ≤ 9223372036854775807
  g0 : -9223372036854775808 ≤ x.age
  g1 : x.age ≤ 9223372036854775807
theorem SAct.conv {H : Type} {enc : TypeId × Value → H} {w : World} {base : Nat} {spare : Nat → Bool} {held : Bool} (fuel : Nat) (cs : List Value) (x : DataW H × List MemPlace) (hl : cs.length = eSA.s)
    (h : DataW.trod enc Try.prog w base spare held fuel eSA.E cs = some x) : ∃ y : SAct, cs = eSA.enc y ∧ y.Ok w := by
  have hC : Try.prog.cellsOf eSA.E = 4 := by kernel_rfl
  obtain ⟨vs, rfl, hr⟩ := open_leaves 2 (ks := [.int, .int, .int, .bytes]) (by kernel_rfl) (hl.trans hC.symm) hC h
  obtain ⟨k, _, rfl, _, hr⟩ := hr.int
  obtain ⟨a, _, rfl, ha, hr⟩ := hr.int
  obtain ⟨ag, _, rfl, hg, hr⟩ := hr.int
  obtain ⟨ad, n, c, l, _, rfl, ⟨h1, h2, h3, h4, h5⟩, hr⟩ := hr.bytes
  obtain rfl := hr.nil
  exact ⟨⟨k, a, ag, ad, n, c, l⟩, rfl, h1, h2, h3, h4, h5, ha.1, ha.2, hg.1, hg.2⟩
def SAct.bs (x : SAct) : BS := ⟨x.a, x.n, x.c, x.b⟩
theorem SAct.Ok.hd {w : World} {x : SAct} (h : x.Ok w) : BS.Hd x.bs ∧ At w x.bs.a x.bs.l := ⟨⟨h.len, h.le, h.big, h.nil⟩, h.isAt⟩
def few6 (l : List SAct) : Bool := decide (l.length ≤ 40) && l.all fun x => decide (x.n ≤ 200)
theorem AtG.cell4 {w : World} {a : Option Addr} {l : List SAct} (h : AtG eSA w a l) {k : Nat} (hk : k < l.length) :
    w.cell? (adr a (k * 4)) = some (.int .i64 l[k].kind) ∧ w.cell? { block := (adr a (k * 4)).block, off := (adr a (k * 4)).off + 1 } = some (.int .i64 l[k].keep) ∧ w.cell? { block := (adr a (k * 4)).block, off := (adr a (k * 4)).off + 2 } = some (.int .i64 l[k].age) ∧ w.cell? { block := (adr a (k * 4)).block, off := (adr a (k * 4)).off + 3 } = some (.slice l[k].a l[k].n l[k].c) := by
  have h0 := (h k hk).2 0 (by decide)
  have h1 := (h k hk).2 1 (by decide)
  have h2 := (h k hk).2 2 (by decide)
  have h3 := (h k hk).2 3 (by decide)
  have e : eSA.s = 4 := rfl
  rw [e] at h0 h1 h2 h3
  rw [← adr_two] at h1 h2 h3
  exact ⟨h0, h1, h2, h3⟩
theorem idxSA (a : Option Addr) (n cap : Nat) (hn : 0 < n → a.isSome = true) (k : Nat) (i : Int) (hi : i = (k : Int)) (hk : k < n) (wx : World) :
    (Instr.indexAt 41 (.slice a n cap) (.int .i64 i)).run Try.prog wx = .ok (.pointer (some (adr a (k * 4)))) wx := idxG eSAok a n cap hn k i hi hk wx

set_option maxRecDepth 10000 in
theorem few6_any (a : Option Addr) (l : List SAct) (n cap : Nat) (w : World) (hn : l.length = n) (hm : n ≤ maxLen) (hA : AtG eSA w a l) :
    Calls Try.prog 23 #[.slice a n cap] w fun e w' => e = .returned (.bool (few6 l)) ∧ w = w' := by
  unfold maxLen at hm
  have HA := hid hA
  have HN := hid hn
  clear hA hn
  by_cases q : 40 < n
  · have e : few6 l = false := by unfold few6; rw [HN.out]; simp; omega
    rw [e]
    clear e
    go_enter Try.func23, Try.ntmps23
    go_wp2
    go_ret
    exact ⟨rfl, rfl⟩
  · go_enter Try.func23, Try.ntmps23
    go_wp2_with fail
    go_loop [3] (fun q => ∃ k : Nat, k ≤ n ∧ q = .int .i64 k ∧ ∀ i (h : i < l.length), i < k → l[i].n ≤ 200) (fun q => n - (intOf q).toNat)
    case atStart => exact ⟨0, Nat.zero_le _, rfl, fun i h hi => by omega⟩
    case round =>
      obtain ⟨k, hk, rfl, hall⟩ := hrel
      have HAll := hid hall
      clear hall
      by_cases hlt : k < n
      · have hkl : k < l.length := by rw [HN.out]; exact hlt
        have i0 := fun wx => idxSA a n cap (fun h => HA.out.ok (by rw [HN.out]; exact h)) k k rfl hlt wx
        obtain ⟨x0, x1, x2, x3⟩ := HA.out.cell4 hkl
        have HX : Hid (l[k].n = l[k].n) := rfl
        have hall2 : Hid (l[k].n ≤ 200 → ∀ i (h : i < l.length), i < k + 1 → l[i].n ≤ 200) := by
          intro h i hi hik
          by_cases e : i = k
          · subst e; exact h
          · exact HAll.out i hi (by omega)
        have hall3 : Hid (¬ l[k].n ≤ 200 → few6 l = false) := by
          intro h
          unfold few6
          rw [Bool.and_eq_false_iff]
          right
          rw [List.all_eq_false]
          exact ⟨l[k], List.getElem_mem _, by simpa using h⟩
        generalize l[k] = x at *
        generalize adr a (k * 4) = A at *
        by_cases h3 : 200 < x.n
        · go_wp2
          go_ret
          rw [hall3.out (by omega)]
          exact ⟨rfl, rfl⟩
        · go_wp2
          go_round
          case rel => exact ⟨k + 1, by omega, by go_num, hall2.out (by omega)⟩
          case measure => simp [intOf]; omega
      · have e : Hid (few6 l = true) := by
          rw [Hid, few6, Bool.and_eq_true]
          refine ⟨by rw [HN.out]; simp; omega, ?_⟩
          rw [List.all_eq_true]
          intro x hx
          obtain ⟨i, hi, rfl⟩ := List.getElem_of_mem hx
          have := HAll.out i hi (by have := HN.out; omega)
          simpa using this
        go_wp2
        go_ret
        rw [e.out]
        exact ⟨rfl, rfl⟩


end Go.Proofs.Ytkkailggpfmgaaa
