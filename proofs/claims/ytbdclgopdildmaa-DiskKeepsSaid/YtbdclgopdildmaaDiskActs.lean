/- DiskActs and DiskKeeps: what is done to disks. -/
import Derived.Test.YtbdclgopdildmaaDiskLaw
import Derived.Test.YtbdclgopdildmaaDiskPlain
import Derived.Test.YtbdclgopdildmaaRdisk2
import Derived.Test.YtbdclgopdildmaaOpen
namespace Go.Proofs.Ytbdclgopdildmaa
set_option linter.unusedVariables false
set_option linter.unusedSimpArgs false
open Go.RowKit

/-- Something that is done to a disk. -/
structure DAct where
  kind : Int
  at_ : Int
  a : Option Addr
  n : Nat
  c : Nat
  b : List UInt8
def eDA : Elt DAct := { T := 22, E := 37, s := 3, byt := 40, z := .agg #[.int .i64 0, .int .i64 0, .slice none 0 0], enc := fun x => [.int .i64 x.kind, .int .i64 x.at_, .slice x.a x.n x.c] }
theorem eDAok : eDA.Ok := ⟨fun _ => rfl, fun x u hu => by simp [eDA] at hu; rcases hu with rfl | rfl | rfl <;> rfl, by decide, by kernel_rfl, by kernel_rfl, by rfl⟩
/-- The bytes of an act, as they lie. -/
structure DAct.Ok (w : World) (x : DAct) : Prop where
  len : x.b.length = x.n
  le : x.n ≤ x.c
  nil : x.a = none → x.c = 0
  at_ : At w x.a x.b
  k0 : -9223372036854775808 ≤ x.at_
  k1 : x.at_ ≤ 9223372036854775807
theorem DAct.conv {H : Type} {enc : TypeId × Value → H} {w : World} {base : Nat} {spare : Nat → Bool} {held : Bool} (fuel : Nat) (cs : List Value) (x : DataW H × List MemPlace) (hl : cs.length = eDA.s)
    (h : DataW.trod enc Try.prog w base spare held fuel eDA.E cs = some x) : ∃ y : DAct, cs = eDA.enc y ∧ y.Ok w := by
  have hC : Try.prog.cellsOf eDA.E = 3 := by kernel_rfl
  obtain ⟨vs, rfl, hr⟩ := open_leaves 2 (ks := [.int, .int, .bytes]) (by kernel_rfl) (hl.trans hC.symm) hC h
  obtain ⟨k, _, rfl, _, hr⟩ := hr.int
  obtain ⟨a, _, rfl, ha, hr⟩ := hr.int
  obtain ⟨ad, n, c, l, _, rfl, ⟨h1, h2, h3, h4, h5⟩, hr⟩ := hr.bytes
  obtain rfl := hr.nil
  exact ⟨⟨k, a, ad, n, c, l⟩, rfl, h1, h2, h4, h5, ha.1, ha.2⟩
def few4 (l : List DAct) : Bool := decide (l.length ≤ 60) && l.all fun x => decide (x.n ≤ 300)
theorem AtG.cell2 {w : World} {a : Option Addr} {l : List DAct} (h : AtG eDA w a l) {k : Nat} (hk : k < l.length) :
    w.cell? (adr a (k * 3)) = some (.int .i64 l[k].kind) ∧ w.cell? { block := (adr a (k * 3)).block, off := (adr a (k * 3)).off + 1 } = some (.int .i64 l[k].at_) ∧ w.cell? { block := (adr a (k * 3)).block, off := (adr a (k * 3)).off + 2 } = some (.slice l[k].a l[k].n l[k].c) := by
  have h0 := (h k hk).2 0 (by decide)
  have h1 := (h k hk).2 1 (by decide)
  have h2 := (h k hk).2 2 (by decide)
  have e : eDA.s = 3 := rfl
  rw [e] at h0 h1 h2
  rw [← adr_two] at h1 h2
  exact ⟨h0, h1, h2⟩
theorem idxDA (a : Option Addr) (n cap : Nat) (hn : 0 < n → a.isSome = true) (k : Nat) (i : Int) (hi : i = (k : Int)) (hk : k < n) (wx : World) :
    (Instr.indexAt 22 (.slice a n cap) (.int .i64 i)).run Try.prog wx = .ok (.pointer (some (adr a (k * 3)))) wx := idxG eDAok a n cap hn k i hi hk wx

set_option maxRecDepth 10000 in
theorem few4_any (a : Option Addr) (l : List DAct) (n cap : Nat) (w : World) (hn : l.length = n) (hm : n ≤ maxLen) (hA : AtG eDA w a l) :
    Calls Try.prog 14 #[.slice a n cap] w fun e w' => e = .returned (.bool (few4 l)) ∧ w = w' := by
  unfold maxLen at hm
  have HA := hid hA
  have HN := hid hn
  clear hA hn
  by_cases q : 60 < n
  · have e : few4 l = false := by unfold few4; rw [HN.out]; simp; omega
    rw [e]
    clear e
    go_enter Try.func14, Try.ntmps14
    go_wp2
    go_ret
    exact ⟨rfl, rfl⟩
  · go_enter Try.func14, Try.ntmps14
    go_wp2_with fail
    go_loop [3] (fun q => ∃ k : Nat, k ≤ n ∧ q = .int .i64 k ∧ ∀ i (h : i < l.length), i < k → l[i].n ≤ 300) (fun q => n - (intOf q).toNat)
    case atStart => exact ⟨0, Nat.zero_le _, rfl, fun i h hi => by omega⟩
    case round =>
      obtain ⟨k, hk, rfl, hall⟩ := hrel
      have HAll := hid hall
      clear hall
      by_cases hlt : k < n
      · have hkl : k < l.length := by rw [HN.out]; exact hlt
        have i0 := fun wx => idxDA a n cap (fun h => HA.out.ok (by rw [HN.out]; exact h)) k k rfl hlt wx
        obtain ⟨x0, x1, x2⟩ := HA.out.cell2 hkl
        have HX : Hid (l[k].n = l[k].n) := rfl
        have hall2 : Hid (l[k].n ≤ 300 → ∀ i (h : i < l.length), i < k + 1 → l[i].n ≤ 300) := by
          intro h i hi hik
          by_cases e : i = k
          · subst e; exact h
          · exact HAll.out i hi (by omega)
        have hall3 : Hid (¬ l[k].n ≤ 300 → few4 l = false) := by
          intro h
          unfold few4
          rw [Bool.and_eq_false_iff]
          right
          rw [List.all_eq_false]
          exact ⟨l[k], List.getElem_mem _, by simpa using h⟩
        generalize l[k] = x at *
        generalize adr a (k * 3) = A at *
        by_cases h3 : 300 < x.n
        · go_wp2
          go_ret
          rw [hall3.out (by omega)]
          exact ⟨rfl, rfl⟩
        · go_wp2
          go_round
          case rel => exact ⟨k + 1, by omega, by go_num, hall2.out (by omega)⟩
          case measure => simp [intOf]; omega
      · have e : Hid (few4 l = true) := by
          rw [Hid, few4, Bool.and_eq_true]
          refine ⟨by rw [HN.out]; simp; omega, ?_⟩
          rw [List.all_eq_true]
          intro x hx
          obtain ⟨i, hi, rfl⟩ := List.getElem_of_mem hx
          have := HAll.out i hi (by have := HN.out; omega)
          simpa using this
        go_wp2
        go_ret
        rw [e.out]
        exact ⟨rfl, rfl⟩

def DSt.act (d : DSt) (x : DAct) : DSt := if x.kind = 0 then d.write x.at_ x.b else if x.kind = 1 then d.sync else if x.kind = 2 then d.crash x.at_ else d
def RD.act (r : RD) (x : DAct) : RD := if x.kind = 0 then r.write x.at_ x.b else if x.kind = 1 then r.sync else if x.kind = 2 then r.crash x.at_ else r
def DSt.code (d : DSt) (a : Int) (n : Nat) : Int := if a < 0 then 1 else if (d.lasts.length : Int) < a + n then 3 else 0
theorem DSt.can_code (d : DSt) (a : Int) (n : Nat) : d.can a n = d.code a n := by
  unfold DSt.can DSt.code
  by_cases h : a < 0
  · rw [if_pos h, if_pos h]
  · rw [if_neg h, if_neg h]
    by_cases h2 : (d.lasts.length : Int) < a + n
    · rw [if_pos h2, if_pos (by omega)]
    · rw [if_neg h2, if_neg (by omega)]

set_option maxRecDepth 10000 in
set_option maxHeartbeats 1600000 in
theorem do4_any {w0 w : World} {tl : List Thing} {p q : Value} {d : DSt} {r : RD} (S : St w0 w (diskT p d :: rdT q r :: tl)) (x : DAct) (hlen : x.b.length = x.n) (hn : x.n ≤ 300) (hnil : x.a = none → x.c = 0) (hA : At w0 x.a x.b)
    (hk0 : -9223372036854775808 ≤ x.at_) (hk1 : x.at_ ≤ 9223372036854775807) (hL : r.b.length = d.lasts.length) (hw : d.waits.length ≤ 1000000) (hps : r.ps.length ≤ 100000000) (hs : d.syncs < 1000000000) (hsr : r.syncs < 1000000000) :
    Calls Try.prog 24 #[p, q, .agg #[.int .i64 x.kind, .int .i64 x.at_, .slice x.a x.n x.c]] w fun e w' => e = .returned (.bool true) ∧ St w0 w' (diskT p (d.act x) :: rdT q (r.act x) :: tl) := by
  have HL := hid hL
  have HLen := hid hlen
  clear hL hlen
  have S1 := (S.newCells 37 #[.int .i64 x.kind, .int .i64 x.at_, .slice x.a x.n x.c]).rot
  by_cases q0 : x.kind = 0
  · have g0 : (x.kind == 0) = true := by simpa using q0
    have e1 : d.act x = d.write x.at_ x.b := if_pos q0
    have e2 : r.act x = r.write x.at_ x.b := if_pos q0
    rw [e1, e2]
    clear e1 e2 q0
    go_enter Try.func24, Try.ntmps24
    go_wp2_with fail
    generalize w.alloc _ = w1 at S1 ⊢
    have c1 := S1.cell 0 rfl 1 rfl
    have c2 := S1.cell 0 rfl 2 rfl
    have c3 := fun n => (S1.drewN n).cell 0 rfl 1 rfl
    go_region_held3 (fun w' => w'.cell? ⟨w.heap.size, 1, none⟩ = some (.int .i64 x.at_) ∧ w'.cell? ⟨w.heap.size, 2, none⟩ = some (.slice x.a x.n x.c)) (go_keep) (first
      | (go_at_call_of 18 (p)
         refine (hwrite S1.drew 1 rfl x.at_ x.a x.b x.n x.c (d.code x.at_ x.n) (DSt.can_code _ _ _) HLen.out (by omega) hw hnil (by exact S1.drew.old hA)).mono ?_
         rintro e w2 ⟨rfl, S2⟩
         have d1 := S2.cell 0 rfl 1 rfl
         have d2 := S2.cell 0 rfl 2 rfl)
      | (go_at_call_of 39 (q)
         refine (rdwrite_any (S2.front 2 rfl) x.at_ x.a x.b x.n x.c (d.code x.at_ x.n) (by rw [HL.out]; rfl) HLen.out (by omega) hps (Reads.old hA)).mono ?_
         rintro e w3 ⟨rfl, S3⟩
         have d3 := S3.cell 1 rfl 1 rfl
         have d4 := S3.cell 1 rfl 2 rfl))
    all_goals (
      go_wp2
      go_ret
      exact ⟨rfl, ((S3.front 2 rfl).front 2 rfl).tail⟩)
  have g0 : (x.kind == 0) = false := by simpa using q0
  by_cases q1 : x.kind = 1
  · have g1 : (x.kind == 1) = true := by simpa using q1
    have e1 : d.act x = d.sync := by unfold DSt.act; rw [if_neg q0, if_pos q1]
    have e2 : r.act x = r.sync := by unfold RD.act; rw [if_neg q0, if_pos q1]
    rw [e1, e2]
    clear e1 e2 q0 q1
    go_enter Try.func24, Try.ntmps24
    go_wp2_with fail
    refine (hsync (by exact S1) 1 rfl hw hs).mono ?_
    rintro e w2 ⟨rfl, S2⟩
    go_wp2_with fail
    refine (rdsync_any (S2.front 2 rfl) hps hsr).mono ?_
    rintro e w3 ⟨rfl, S3⟩
    go_wp2
    go_ret
    exact ⟨rfl, ((S3.front 2 rfl).front 2 rfl).tail⟩
  have g1 : (x.kind == 1) = false := by simpa using q1
  by_cases q2 : x.kind = 2
  · have g2 : (x.kind == 2) = true := by simpa using q2
    have e1 : d.act x = d.crash x.at_ := by unfold DSt.act; rw [if_neg q0, if_neg q1, if_pos q2]
    have e2 : r.act x = r.crash x.at_ := by unfold RD.act; rw [if_neg q0, if_neg q1, if_pos q2]
    rw [e1, e2]
    clear e1 e2 q0 q1 q2
    go_enter Try.func24, Try.ntmps24
    go_wp2_with fail
    refine (hcrash (by exact S1) 1 rfl x.at_ hk0 hk1 hw).mono ?_
    rintro e w2 ⟨rfl, S2⟩
    have c1 := S2.cell 0 rfl 1 rfl
    go_wp2_with fail
    refine (rdcrash_any (S2.front 2 rfl) x.at_ hps).mono ?_
    rintro e w3 ⟨rfl, S3⟩
    go_wp2
    go_ret
    exact ⟨rfl, ((S3.front 2 rfl).front 2 rfl).tail⟩
  · have g2 : (x.kind == 2) = false := by simpa using q2
    have e1 : d.act x = d := by unfold DSt.act; rw [if_neg q0, if_neg q1, if_neg q2]
    have e2 : r.act x = r := by unfold RD.act; rw [if_neg q0, if_neg q1, if_neg q2]
    rw [e1, e2]
    clear e1 e2 q0 q1 q2
    go_enter Try.func24, Try.ntmps24
    go_wp2
    go_ret
    exact ⟨rfl, S1.tail⟩

end Go.Proofs.Ytbdclgopdildmaa
