/- JournalAll, JournalActs: what is done to journals. -/
import Derived.Test.YtmfbbonppmhabaaLogs
import Derived.Test.YtmfbbonppmhabaaOpens
namespace Go.Proofs.Ytmfbbonppmhabaa
set_option linter.unusedVariables false
set_option linter.unusedSimpArgs false
open Go.RowKit

/-- Something that is done to a log. -/
structure JAct where
  kind : Int
  keep : Int
  a : Option Addr
  n : Nat
  c : Nat
  b : List UInt8
def eJA : Elt JAct := { T := 35, E := 43, s := 3, byt := 40, z := .agg #[.int .i64 0, .int .i64 0, .slice none 0 0], enc := fun x => [.int .i64 x.kind, .int .i64 x.keep, .slice x.a x.n x.c] }
theorem eJAok : eJA.Ok := ⟨fun _ => rfl, fun x u hu => by simp [eJA] at hu; rcases hu with rfl | rfl | rfl <;> rfl, by decide, by kernel_rfl, by kernel_rfl, by rfl⟩
/-- The bytes of an act, as they lie. -/
structure JAct.Ok (w : World) (x : JAct) : Prop where
  len : x.b.length = x.n
  le : x.n ≤ x.c
  big : x.c ≤ maxLen
  nil : x.a = none → x.c = 0
  isAt : At w x.a x.b
  k0 : -9223372036854775808 ≤ x.keep
  k1 : x.keep ≤ 9223372036854775807
theorem JAct.conv {H : Type} {enc : TypeId × Value → H} {w : World} {base : Nat} {spare : Nat → Bool} {held : Bool} (fuel : Nat) (cs : List Value) (x : DataW H × List MemPlace) (hl : cs.length = eJA.s)
    (h : DataW.trod enc Try.prog w base spare held fuel eJA.E cs = some x) : ∃ y : JAct, cs = eJA.enc y ∧ y.Ok w := by
  have hC : Try.prog.cellsOf eJA.E = 3 := by kernel_rfl
  obtain ⟨vs, rfl, hr⟩ := open_leaves 2 (ks := [.int, .int, .bytes]) (by kernel_rfl) (hl.trans hC.symm) hC h
  obtain ⟨k, _, rfl, _, hr⟩ := hr.int
  obtain ⟨a, _, rfl, ha, hr⟩ := hr.int
  obtain ⟨ad, n, c, l, _, rfl, ⟨h1, h2, h3, h4, h5⟩, hr⟩ := hr.bytes
  obtain rfl := hr.nil
  exact ⟨⟨k, a, ad, n, c, l⟩, rfl, h1, h2, h3, h4, h5, ha.1, ha.2⟩
def JAct.bs (x : JAct) : BS := ⟨x.a, x.n, x.c, x.b⟩
theorem JAct.Ok.hd {w : World} {x : JAct} (h : x.Ok w) : BS.Hd x.bs ∧ At w x.bs.a x.bs.l := ⟨⟨h.len, h.le, h.big, h.nil⟩, h.isAt⟩
def few7 (l : List JAct) : Bool := decide (l.length ≤ 40) && l.all fun x => decide (x.n ≤ 200)
theorem AtG.cellJA {w : World} {a : Option Addr} {l : List JAct} (h : AtG eJA w a l) {k : Nat} (hk : k < l.length) :
    w.cell? (adr a (k * 3)) = some (.int .i64 l[k].kind) ∧ w.cell? { block := (adr a (k * 3)).block, off := (adr a (k * 3)).off + 1 } = some (.int .i64 l[k].keep) ∧ w.cell? { block := (adr a (k * 3)).block, off := (adr a (k * 3)).off + 2 } = some (.slice l[k].a l[k].n l[k].c) := by
  have h0 := (h k hk).2 0 (by decide)
  have h1 := (h k hk).2 1 (by decide)
  have h2 := (h k hk).2 2 (by decide)
  have e : eJA.s = 3 := rfl
  rw [e] at h0 h1 h2
  rw [← adr_two] at h1 h2
  exact ⟨h0, h1, h2⟩
theorem idxJA (a : Option Addr) (n cap : Nat) (hn : 0 < n → a.isSome = true) (k : Nat) (i : Int) (hi : i = (k : Int)) (hk : k < n) (wx : World) :
    (Instr.indexAt 35 (.slice a n cap) (.int .i64 i)).run Try.prog wx = .ok (.pointer (some (adr a (k * 3)))) wx := idxG eJAok a n cap hn k i hi hk wx

set_option maxRecDepth 10000 in
theorem few7_any (a : Option Addr) (l : List JAct) (n cap : Nat) (w : World) (hn : l.length = n) (hm : n ≤ maxLen) (hA : AtG eJA w a l) :
    Calls Try.prog 14 #[.slice a n cap] w fun e w' => e = .returned (.bool (few7 l)) ∧ w = w' := by
  unfold maxLen at hm
  have HA := hid hA
  have HN := hid hn
  clear hA hn
  by_cases q : 40 < n
  · have e : few7 l = false := by unfold few7; rw [HN.out]; simp; omega
    rw [e]
    clear e
    go_enter Try.func14, Try.ntmps14
    go_wp2
    go_ret
    exact ⟨rfl, rfl⟩
  · go_enter Try.func14, Try.ntmps14
    go_wp2_with fail
    go_loop [3] (fun q => ∃ k : Nat, k ≤ n ∧ q = .int .i64 k ∧ ∀ i (h : i < l.length), i < k → l[i].n ≤ 200) (fun q => n - (intOf q).toNat)
    case atStart => exact ⟨0, Nat.zero_le _, rfl, fun i h hi => by omega⟩
    case round =>
      obtain ⟨k, hk, rfl, hall⟩ := hrel
      have HAll := hid hall
      clear hall
      by_cases hlt : k < n
      · have hkl : k < l.length := by rw [HN.out]; exact hlt
        have i0 := fun wx => idxJA a n cap (fun h => HA.out.ok (by rw [HN.out]; exact h)) k k rfl hlt wx
        obtain ⟨x0, x1, x2⟩ := HA.out.cellJA hkl
        have HX : Hid (l[k].n = l[k].n) := rfl
        have hall2 : Hid (l[k].n ≤ 200 → ∀ i (h : i < l.length), i < k + 1 → l[i].n ≤ 200) := by
          intro h i hi hik
          by_cases e : i = k
          · subst e; exact h
          · exact HAll.out i hi (by omega)
        have hall3 : Hid (¬ l[k].n ≤ 200 → few7 l = false) := by
          intro h
          unfold few7
          rw [Bool.and_eq_false_iff]
          right
          rw [List.all_eq_false]
          exact ⟨l[k], List.getElem_mem _, by simpa using h⟩
        generalize l[k] = x at *
        generalize adr a (k * 3) = A at *
        by_cases h3 : 200 < x.n
        · go_wp2
          go_ret
          rw [hall3.out (by omega)]
          exact ⟨rfl, rfl⟩
        · go_wp2
          go_round
          case rel => exact ⟨k + 1, by omega, by go_num, hall2.out (by omega)⟩
          case measure => simp [intOf]; omega
      · have e : Hid (few7 l = true) := by
          rw [Hid, few7, Bool.and_eq_true]
          refine ⟨by rw [HN.out]; simp; omega, ?_⟩
          rw [List.all_eq_true]
          intro x hx
          obtain ⟨i, hi, rfl⟩ := List.getElem_of_mem hx
          have := HAll.out i hi (by have := HN.out; omega)
          simpa using this
        go_wp2
        go_ret
        rw [e.out]
        exact ⟨rfl, rfl⟩


end Go.Proofs.Ytmfbbonppmhabaa
